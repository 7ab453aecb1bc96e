/- The sum of bytes, bit by bit and four bits at a time: the same, and one to one. -/
import Derived.Laws.BitsLemmas
namespace Go.Proofs.YtafajpjonmnjbaaDoor.Crc
def P : Nat := 3988292384
def bs (n : Nat) : Nat := n / 2 ^^^ (if n % 2 = 1 then P else 0)
theorem xor_div2 (a b k : Nat) : (a ^^^ b) / 2 ^ k = a / 2 ^ k ^^^ b / 2 ^ k := by
  rw [← Nat.shiftRight_eq_div_pow, ← Nat.shiftRight_eq_div_pow, ← Nat.shiftRight_eq_div_pow, Nat.shiftRight_xor_distrib]
theorem xor_mod2 (a b k : Nat) : (a ^^^ b) % 2 ^ k = a % 2 ^ k ^^^ b % 2 ^ k := Nat.xor_mod_two_pow
theorem bs_xor (a b : Nat) : bs (a ^^^ b) = bs a ^^^ bs b := by
  have h1 := xor_div2 a b 1
  have h2 := xor_mod2 a b 1
  simp only [Nat.pow_one] at h1 h2
  unfold bs
  rw [h1, h2]
  rcases Nat.mod_two_eq_zero_or_one a with ha | ha <;> rcases Nat.mod_two_eq_zero_or_one b with hb | hb <;> rw [ha, hb]
  · simp
  · simp [Nat.xor_assoc]
  · simp only [Nat.xor_zero, if_true, Nat.zero_ne_one, if_false]
    rw [Nat.xor_assoc, Nat.xor_comm (b / 2), ← Nat.xor_assoc]
  · simp only [Nat.xor_self, Nat.zero_ne_one, if_false, if_true, Nat.xor_zero]
    rw [Nat.xor_assoc, Nat.xor_comm P, Nat.xor_assoc (b / 2), Nat.xor_self, Nat.xor_zero]
theorem bs_double (x : Nat) : bs (2 * x) = x := by
  unfold bs
  rw [if_neg (by omega), Nat.mul_div_cancel_left _ (by decide), Nat.xor_zero]
theorem bs_zero : bs 0 = 0 := by decide
def bs4 (n : Nat) : Nat := bs (bs (bs (bs n)))
theorem bs4_xor (a b : Nat) : bs4 (a ^^^ b) = bs4 a ^^^ bs4 b := by simp only [bs4, bs_xor]
theorem bs4_sixteen (x : Nat) : bs4 (16 * x) = x := by
  unfold bs4
  rw [show 16 * x = 2 * (2 * (2 * (2 * x))) by omega, bs_double, bs_double, bs_double, bs_double]
theorem split16 (n : Nat) : n = 16 * (n / 16) ^^^ n % 16 := by
  have h : n = 16 * (n / 16) + n % 16 := by omega
  have h2 := Nat.two_pow_add_eq_or_of_lt (i := 4) (b := n % 16) (by omega) (n / 16)
  have h3 : 16 * (n / 16) ||| n % 16 = 16 * (n / 16) ^^^ n % 16 := by
    apply Nat.eq_of_testBit_eq
    intro i
    rw [Nat.testBit_or, Nat.testBit_xor]
    have h4 : (16 * (n / 16)).testBit i = (decide (4 ≤ i) && (n / 16).testBit (i - 4)) := by
      have := Nat.testBit_two_pow_mul (i := 4) (a := n / 16) (j := i)
      simpa using this
    have h5 : (n % 16).testBit i = (decide (i < 4) && n.testBit i) := by
      have := Nat.testBit_mod_two_pow n 4 i
      simpa using this
    rw [h4, h5]
    by_cases c : i < 4
    · have : ¬ 4 ≤ i := by omega
      simp [c, this]
    · simp [c]
  rw [← h3, ← h2]
  exact h
/-- what four zero bits make of four bits -/
def tn : List Nat := [0, 498536548, 997073096, 651767980, 1994146192, 1802195444, 1303535960, 1342533948, 3988292384, 4027552580, 3604390888, 3412177804, 2607071920, 2262029012, 2685067896, 3183342108]
theorem bs4_tab (r : Nat) (h : r < 16) : bs4 r = tn.getD r 0 := by
  have : ∀ r : Fin 16, bs4 r = tn.getD r 0 := by decide
  exact this ⟨r, h⟩
theorem bs4_eq (n : Nat) : bs4 n = n / 16 ^^^ tn.getD (n % 16) 0 := by
  have h := congrArg bs4 (split16 n)
  rw [bs4_xor, bs4_sixteen, bs4_tab (n % 16) (by omega)] at h
  exact h
/-- one step, with a bit that comes in -/
def rb (n c : Nat) : Nat := n / 2 ^^^ (if (n % 2 + c % 2) % 2 = 1 then P else 0)
theorem rb_eq (n c : Nat) : rb n c = bs (n ^^^ c % 2) := by
  have h1 := xor_div2 n (c % 2) 1
  have h2 := xor_mod2 n (c % 2) 1
  simp only [Nat.pow_one] at h1 h2
  unfold rb bs
  rw [h1, h2, show c % 2 / 2 = 0 by omega, Nat.xor_zero, Nat.mod_mod]
  rcases Nat.mod_two_eq_zero_or_one n with ha | ha <;> rcases Nat.mod_two_eq_zero_or_one c with hb | hb <;> rw [ha, hb] <;> rfl
theorem rb4 (n c : Nat) : rb (rb (rb (rb n c) (c / 2)) (c / 4)) (c / 8) = bs4 (n ^^^ c % 16) := by
  simp only [rb_eq, bs4_xor]
  have key : ∀ m : Fin 16, bs4 m = bs (bs (bs (bs (m % 2)))) ^^^ bs (bs (bs (m / 2 % 2))) ^^^ bs (bs (m / 4 % 2)) ^^^ bs (m / 8 % 2) := by decide
  have h := key ⟨c % 16, by omega⟩
  simp only at h
  rw [h, show c % 16 % 2 = c % 2 by omega, show c % 16 / 2 % 2 = c / 2 % 2 by omega, show c % 16 / 4 % 2 = c / 4 % 2 by omega, show c % 16 / 8 % 2 = c / 8 % 2 by omega]
  simp only [bs_xor, bs4, Nat.xor_assoc]
def hf (n h : Nat) : Nat := n / 16 ^^^ tn.getD ((n ^^^ h) % 16) 0
theorem hf_eq (n h : Nat) (hh : h < 16) : hf n h = bs4 (n ^^^ h) := by
  have h1 := xor_div2 n h 4
  simp only [show (2 : Nat) ^ 4 = 16 from rfl] at h1
  rw [bs4_eq, h1, show h / 16 = 0 by omega, Nat.xor_zero]; rfl
theorem rb8 (n c : Nat) (hc : c < 256) : rb (rb (rb (rb (rb (rb (rb (rb n c) (c / 2)) (c / 4)) (c / 8)) (c / 16)) (c / 32)) (c / 64)) (c / 128) = hf (hf n (c % 16)) (c / 16) := by
  have h1 := rb4 n c
  have h2 := rb4 (bs4 (n ^^^ c % 16)) (c / 16)
  rw [Nat.div_div_eq_div_mul, Nat.div_div_eq_div_mul, Nat.div_div_eq_div_mul] at h2
  rw [h1, h2, hf_eq _ _ (by omega), hf_eq _ _ (by omega), show c / 16 % 16 = c / 16 by omega]
theorem tn_lt (r : Nat) : tn.getD r 0 < 2 ^ 32 := by
  by_cases h : r < 16
  · have : ∀ r : Fin 16, tn.getD r 0 < 2 ^ 32 := by decide
    exact this ⟨r, h⟩
  · rw [List.getD_eq_getElem?_getD, List.getElem?_eq_none (by simp [tn]; omega)]; decide
theorem hf_lt (n h : Nat) (hn : n < 2 ^ 32) : hf n h < 2 ^ 32 := Nat.xor_lt_two_pow (by omega) (tn_lt _)
theorem rb_lt (n c : Nat) (hn : n < 2 ^ 32) : rb n c < 2 ^ 32 := by
  unfold rb
  refine Nat.xor_lt_two_pow (by omega) ?_
  split <;> decide
/-- injective: in the state, and in the byte -/
theorem bs_inj {a b : Nat} (ha : a < 2 ^ 32) (hb : b < 2 ^ 32) (h : bs a = bs b) : a = b := by
  have hx : bs (a ^^^ b) = 0 := by rw [bs_xor, h, Nat.xor_self]
  have hlt : a ^^^ b < 2 ^ 32 := Nat.xor_lt_two_pow ha hb
  have hd : a ^^^ b = 0 := by
    generalize a ^^^ b = d at hx hlt
    unfold bs at hx
    by_cases h1 : d % 2 = 1
    · rw [if_pos h1] at hx
      exfalso
      have h31 := congrArg (fun z => z.testBit 31) hx
      simp only [Nat.testBit_xor, Nat.zero_testBit] at h31
      rw [Nat.testBit_lt_two_pow (show d / 2 < 2 ^ 31 by omega), show P.testBit 31 = true by decide] at h31
      cases h31
    · rw [if_neg h1, Nat.xor_zero] at hx
      omega
  calc a = (a ^^^ b) ^^^ b := by rw [Nat.xor_assoc, Nat.xor_self, Nat.xor_zero]
    _ = b := by rw [hd, Nat.zero_xor]
theorem bs_lt {a : Nat} (ha : a < 2 ^ 32) : bs a < 2 ^ 32 := by
  unfold bs
  refine Nat.xor_lt_two_pow (by omega) ?_
  split <;> decide
theorem bs4_lt {a : Nat} (ha : a < 2 ^ 32) : bs4 a < 2 ^ 32 := bs_lt (bs_lt (bs_lt (bs_lt ha)))
theorem bs4_inj {a b : Nat} (ha : a < 2 ^ 32) (hb : b < 2 ^ 32) (h : bs4 a = bs4 b) : a = b :=
  bs_inj ha hb (bs_inj (bs_lt ha) (bs_lt hb) (bs_inj (bs_lt (bs_lt ha)) (bs_lt (bs_lt hb)) (bs_inj (bs_lt (bs_lt (bs_lt ha))) (bs_lt (bs_lt (bs_lt hb))) h)))
theorem xor_cancel {a b c : Nat} (h : a ^^^ c = b ^^^ c) : a = b := by
  have := congrArg (· ^^^ c) h
  simpa [Nat.xor_assoc] using this
theorem xor_cancel_left {a b c : Nat} (h : c ^^^ a = c ^^^ b) : a = b := xor_cancel (c := c) (by rw [Nat.xor_comm a, Nat.xor_comm b]; exact h)
/-- a whole byte -/
def by_ (n c : Nat) : Nat := hf (hf n (c % 16)) (c / 16)
theorem by_lt (n c : Nat) (hn : n < 2 ^ 32) : by_ n c < 2 ^ 32 := hf_lt _ _ (hf_lt _ _ hn)
theorem by_inj {n m c : Nat} (hc : c < 256) (hn : n < 2 ^ 32) (hm : m < 2 ^ 32) (h : by_ n c = by_ m c) : n = m := by
  unfold by_ at h
  have l1 := hf_lt n (c % 16) hn
  have l2 := hf_lt m (c % 16) hm
  have k1 : c / 16 < 2 ^ 32 := by omega
  have k2 : c % 16 < 2 ^ 32 := by omega
  rw [hf_eq (hf n (c % 16)) _ (by omega), hf_eq (hf m (c % 16)) _ (by omega)] at h
  have h2 := xor_cancel (bs4_inj (Nat.xor_lt_two_pow l1 k1) (Nat.xor_lt_two_pow l2 k1) h)
  rw [hf_eq _ _ (by omega), hf_eq _ _ (by omega)] at h2
  exact xor_cancel (bs4_inj (Nat.xor_lt_two_pow hn k2) (Nat.xor_lt_two_pow hm k2) h2)
theorem by_inj_byte {n c d : Nat} (hc : c < 256) (hd : d < 256) (hn : n < 2 ^ 32) (h : by_ n c = by_ n d) : c = d := by
  unfold by_ at h
  have l1 := hf_lt n (c % 16) hn
  have l2 := hf_lt n (d % 16) hn
  rw [hf_eq (hf n (c % 16)) _ (by omega), hf_eq (hf n (d % 16)) _ (by omega)] at h
  have h2 := bs4_inj (Nat.xor_lt_two_pow l1 (by omega)) (Nat.xor_lt_two_pow l2 (by omega)) h
  rw [hf_eq _ _ (by omega), hf_eq _ _ (by omega)] at h2
  have e1 : bs4 (n ^^^ c % 16) ^^^ c / 16 = bs4 n ^^^ bs4 (c % 16) ^^^ c / 16 := by rw [bs4_xor]
  have e2 : bs4 (n ^^^ d % 16) ^^^ d / 16 = bs4 n ^^^ bs4 (d % 16) ^^^ d / 16 := by rw [bs4_xor]
  rw [e1, e2, Nat.xor_assoc, Nat.xor_assoc] at h2
  have h3 := xor_cancel_left h2
  have key : ∀ x y : Fin 16, ∀ u v : Fin 16, bs4 x ^^^ u.val = bs4 y ^^^ v.val → x = y ∧ u = v := by decide +kernel
  have := key ⟨c % 16, by omega⟩ ⟨d % 16, by omega⟩ ⟨c / 16, by omega⟩ ⟨d / 16, by omega⟩ h3
  simp only [Fin.mk.injEq] at this
  omega
end Go.Proofs.YtafajpjonmnjbaaDoor.Crc
