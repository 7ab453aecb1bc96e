/- The program's sum and the reference's, over whole numbers, are the one of the plain text on bits. -/
import Derived.Test.YtafajpjonmnjbaaDoorCrc
import Derived.Test.YtafajpjonmnjbaaDoorSum
namespace Go.Proofs.YtafajpjonmnjbaaDoor.Fr
open Go.RowKit Go.Proofs.YtafajpjonmnjbaaDoorW.PrintWords Go.Proofs.YtafajpjonmnjbaaDoorW.PrintLast Go.Proofs.YtafajpjonmnjbaaDoorW.PrintMore Go.Proofs.YtafajpjonmnjbaaDoor.Kit Go.Proofs.YtafajpjonmnjbaaDoor.PFrameGets
set_option linter.unusedVariables false
set_option linter.unusedSimpArgs false

theorem xor32 (a b : Nat) (ha : a < 2 ^ 32) (hb : b < 2 ^ 32) : Go.bits .xor .u32 (a : Int) (b : Int) = ((a ^^^ b : Nat) : Int) := by
  have h : a ^^^ b < 2 ^ 32 := Nat.xor_lt_two_pow ha hb
  have ha' : a % 2 ^ IntKind.u32.bits = a := Nat.mod_eq_of_lt ha
  have hb' : b % 2 ^ IntKind.u32.bits = b := Nat.mod_eq_of_lt hb
  simp only [Go.bits, BitVec.ofInt_natCast, BitVec.toNat_xor, BitVec.toNat_ofNat, ha', hb']
  rw [IntKind.wrap_u32]
  omega
theorem and32 (a : Nat) (ha : a < 2 ^ 32) : Go.bits .and .u32 (a : Int) 15 = ((a % 16 : Nat) : Int) := by
  have h := bits_mask .u32 32 (by decide) (fun n h0 h1 => by rw [IntKind.wrap_u32]; omega) 4 (by omega) (a : Int) (by omega) (by exact_mod_cast ha)
  have e : ((2 : Int) ^ 4 - 1) = 15 := by decide
  rw [e] at h
  rw [h]
  omega
theorem and8 (c : Nat) (hc : c < 256) : Go.bits .and .u8 (c : Int) 15 = ((c % 16 : Nat) : Int) := by
  have h := bits_mask .u8 8 (by decide) (fun n h0 h1 => by rw [IntKind.wrap_u8]; omega) 4 (by omega) (c : Int) (by omega) (by exact_mod_cast hc)
  have e : ((2 : Int) ^ 4 - 1) = 15 := by decide
  rw [e] at h
  rw [h]
  omega
theorem tb_nat (i : Nat) : tb (i : Int) = ((Crc.tn.getD i 0 : Nat) : Int) := by
  by_cases h : i < 16
  · have : ∀ i : Fin 16, tb ((i : Nat) : Int) = ((Crc.tn.getD i 0 : Nat) : Int) := by decide
    exact this ⟨i, h⟩
  · unfold tb
    rw [List.getD_eq_getElem?_getD, List.getD_eq_getElem?_getD, List.getElem?_eq_none (by simp [tbl]; omega), List.getElem?_eq_none (by simp [Crc.tn]; omega)]; rfl
theorem half_nat (n h : Nat) (hn : n < 2 ^ 32) (hh : h < 16) : half (n : Int) (h : Int) = ((Crc.hf n h : Nat) : Int) := by
  unfold half ix Crc.hf
  have e1 : ((h : Int) % 4294967296) = ((h : Nat) : Int) := by omega
  rw [e1, xor32 n h hn (by omega), and32 _ (Nat.xor_lt_two_pow hn (by omega)), tb_nat]
  have e2 : ((n : Int) / 16) = ((n / 16 : Nat) : Int) := by omega
  rw [e2, xor32 _ _ (by omega) (Crc.tn_lt _)]
theorem byte_nat (n c : Nat) (hn : n < 2 ^ 32) (hc : c < 256) : byteStep (n : Int) (c : Int) = ((Crc.by_ n c : Nat) : Int) := by
  unfold byteStep Crc.by_
  have e2 : ((c : Int) / 16) = ((c / 16 : Nat) : Int) := by omega
  rw [and8 c hc, half_nat n _ hn (by omega), e2, half_nat _ _ (Crc.hf_lt _ _ hn) (by omega)]
/-- the state behind bytes -/
def st (n : Nat) (l : List Nat) : Nat := l.foldl Crc.by_ n
theorem st_lt (l : List Nat) : ∀ n, n < 2 ^ 32 → st n l < 2 ^ 32 := by
  induction l with
  | nil => exact fun n h => h
  | cons c l ih => exact fun n h => ih _ (Crc.by_lt n c h)
theorem fold_nat (l : List Nat) (h : ∀ c ∈ l, c < 256) : ∀ n : Nat, n < 2 ^ 32 → (l.map (fun c : Nat => (c : Int))).foldl byteStep (n : Int) = ((st n l : Nat) : Int) := by
  induction l with
  | nil => exact fun n _ => rfl
  | cons c l ih =>
    intro n hn
    simp only [List.map_cons, List.foldl_cons]
    rw [byte_nat n c hn (h c (by simp)), ih (fun d hd => h d (by simp [hd])) _ (Crc.by_lt n c hn)]
    rfl
theorem not32 (n : Nat) (hn : n < 2 ^ 32) : Go.bits .xor .u32 IntKind.u32.max (n : Int) = ((4294967295 - n : Nat) : Int) := by
  have e : IntKind.u32.max = ((4294967295 : Nat) : Int) := rfl
  rw [e, xor32 _ n (by decide) hn]
  have h := BitVec.toNat_not (x := BitVec.ofNat 32 n)
  have h2 : (BitVec.allOnes 32 ^^^ BitVec.ofNat 32 n) = ~~~ (BitVec.ofNat 32 n) := BitVec.allOnes_xor
  have h3 := congrArg BitVec.toNat h2
  rw [h, BitVec.toNat_xor, BitVec.toNat_allOnes, BitVec.toNat_ofNat, Nat.mod_eq_of_lt hn] at h3
  rw [show (4294967295 : Nat) = 2 ^ 32 - 1 by decide, h3]
/-- all are bytes -/
def Bytes (l : List Int) : Prop := ∀ x ∈ l, 0 ≤ x ∧ x < 256
theorem Bytes.nat {l : List Int} (h : Bytes l) : ∃ m : List Nat, l = m.map (fun c : Nat => (c : Int)) ∧ ∀ c ∈ m, c < 256 := by
  refine ⟨l.map Int.toNat, ?_, ?_⟩
  · rw [List.map_map]
    refine (List.map_id l).symm.trans (List.map_congr_left fun x hx => ?_)
    have := h x hx
    simp; omega
  · intro c hc
    obtain ⟨x, hx, rfl⟩ := List.mem_map.1 hc
    have := h x hx
    omega
theorem crc_nat (m : List Nat) (h : ∀ c ∈ m, c < 256) : crc (m.map (fun c : Nat => (c : Int))) = ((4294967295 - st 4294967295 m : Nat) : Int) := by
  unfold crc
  have := fold_nat m h 4294967295 (by decide)
  rw [show (4294967295 : Int) = ((4294967295 : Nat) : Int) from rfl, this, not32 _ (st_lt _ _ (by decide))]
/-! The reference's loops. -/
theorem ref_round (k : Nat) (x : List Int) (n i c j : Nat) (hn : n < 2 ^ 32) (hc : c < 256) (hj : j < 8) :
    althingref06_Sum.l1 (k + 1) x (n : Int) (i : Int) (c : Int) (j : Int) = althingref06_Sum.l1 k x ((Crc.rb n c : Nat) : Int) (i : Int) ((c / 2 : Nat) : Int) ((j + 1 : Nat) : Int) := by
  have w : wrap64 ((j : Int) + 1) = ((j + 1 : Nat) : Int) := by unfold wrap64; omega
  have e1 : Int.tmod (n : Int) 2 = ((n % 2 : Nat) : Int) := by rw [Int.tmod_eq_emod_of_nonneg (by omega)]; omega
  have e2 : Int.tmod (c : Int) 2 = ((c % 2 : Nat) : Int) := by rw [Int.tmod_eq_emod_of_nonneg (by omega)]; omega
  have e3 : Int.tdiv (n : Int) 2 % 4294967296 = ((n / 2 : Nat) : Int) := by rw [Int.tdiv_eq_ediv_of_nonneg (by omega)]; omega
  have e4 : Int.tdiv (c : Int) 2 % 256 = ((c / 2 : Nat) : Int) := by rw [Int.tdiv_eq_ediv_of_nonneg (by omega)]; omega
  simp only [althingref06_Sum.l1]
  rw [if_pos (by omega), e1, e2, e3, e4, w]
  unfold Crc.rb
  by_cases h : (n % 2 + c % 2) % 2 = 1
  · rw [if_pos (by omega), if_pos h, show (3988292384 : Int) = ((Crc.P : Nat) : Int) from rfl, xor32 _ _ (by omega) (by decide)]
  · rw [if_neg (by omega), if_neg h, Nat.xor_zero]
theorem ref_byte (k : Nat) (x : List Int) (n i c : Nat) (hn : n < 2 ^ 32) (hc : c < 256) (hi : i < 9223372036854775807) :
    althingref06_Sum.l1 (k + 9) x (n : Int) (i : Int) (c : Int) 0 = althingref06_Sum.l0 k x ((Crc.by_ n c : Nat) : Int) ((i + 1 : Nat) : Int) := by
  have w : wrap64 ((i : Int) + 1) = ((i + 1 : Nat) : Int) := by unfold wrap64; omega
  have b1 := Crc.rb_lt n c hn
  have b2 := Crc.rb_lt _ (c / 2) b1
  have b3 := Crc.rb_lt _ (c / 4) b2
  have b4 := Crc.rb_lt _ (c / 8) b3
  have b5 := Crc.rb_lt _ (c / 16) b4
  have b6 := Crc.rb_lt _ (c / 32) b5
  have b7 := Crc.rb_lt _ (c / 64) b6
  have d2 : c / 2 / 2 = c / 4 := by omega
  have d3 : c / 4 / 2 = c / 8 := by omega
  have d4 : c / 8 / 2 = c / 16 := by omega
  have d5 : c / 16 / 2 = c / 32 := by omega
  have d6 : c / 32 / 2 = c / 64 := by omega
  have d7 : c / 64 / 2 = c / 128 := by omega
  rw [show (0 : Int) = ((0 : Nat) : Int) from rfl, ref_round _ x n i c 0 hn hc (by omega), ref_round _ x _ i _ 1 b1 (by omega) (by omega), d2, ref_round _ x _ i _ 2 b2 (by omega) (by omega), d3, ref_round _ x _ i _ 3 b3 (by omega) (by omega), d4,
    ref_round _ x _ i _ 4 b4 (by omega) (by omega), d5, ref_round _ x _ i _ 5 b5 (by omega) (by omega), d6, ref_round _ x _ i _ 6 b6 (by omega) (by omega), d7, ref_round _ x _ i _ 7 b7 (by omega) (by omega), Crc.rb8 n c hc]
  simp only [althingref06_Sum.l1]
  rw [if_neg (by omega), w]
  rfl
theorem ref_rest (m : List Nat) (h : ∀ c ∈ m, c < 256) (hl : m.length < 9223372036854775807) (d : Nat) : ∀ (k i n : Nat), n < 2 ^ 32 → i ≤ m.length → m.length - i = d → 10 * d < k →
    althingref06_Sum.l0 k (m.map (fun c : Nat => (c : Int))) (n : Int) (i : Int) = some ((4294967295 - st n (m.drop i) : Nat) : Int) := by
  induction d with
  | zero =>
    intro k i n hn hi hd hk
    obtain ⟨k, rfl⟩ : ∃ j, k = j + 1 := ⟨k - 1, by omega⟩
    simp only [althingref06_Sum.l0]
    rw [if_neg (by simp; omega), List.drop_of_length_le (by omega)]
    simp only [st, List.foldl_nil]
    congr 1
    omega
  | succ d ih =>
    intro k i n hn hi hd hk
    obtain ⟨k, rfl⟩ : ∃ j, k = j + 1 + 9 := ⟨k - 10, by omega⟩
    have hlt : i < m.length := by omega
    have hmem : m[i] < 256 := h _ (List.getElem_mem hlt)
    have hr : rd (m.map (fun c : Nat => (c : Int))) (i : Int) = ((m[i] : Nat) : Int) := by simp [rd, hlt]
    show althingref06_Sum.l0 (k + 9 + 1) _ _ _ = _
    simp only [althingref06_Sum.l0]
    rw [if_pos (by simp; omega), if_pos (by omega), hr, ref_byte k _ n i _ hn hmem (by omega), ih k (i + 1) _ (Crc.by_lt _ _ hn) (by omega) (by omega) (by omega)]
    rw [List.drop_eq_getElem_cons hlt]
    rfl
/-- The reference's sum is the program's. -/
theorem ref_sum (l : List Int) (h : Bytes l) (hl : l.length < 9223372036854775807) : ∃ k, althingref06_Sum.f k l = some (crc l) := by
  obtain ⟨m, rfl, hm⟩ := h.nat
  refine ⟨10 * m.length + 1, ?_⟩
  have := ref_rest m hm (by simpa using hl) m.length (10 * m.length + 1) 0 4294967295 (by decide) (by omega) (by omega) (by omega)
  rw [crc_nat m hm]
  exact this
/-- Are two rows the same? -/
theorem same_rest (x y : List Int) (hxy : x.length = y.length) (hl : x.length < 9223372036854775807) (d : Nat) : ∀ (k i : Nat), i ≤ x.length → x.length - i = d → d < k →
    althinglaw06_same.l0 k x y (x.length : Int) (i : Int) = some (decide (x.drop i = y.drop i)) := by
  induction d with
  | zero =>
    intro k i hi hd hk
    obtain ⟨k, rfl⟩ : ∃ j, k = j + 1 := ⟨k - 1, by omega⟩
    simp only [althinglaw06_same.l0]
    rw [if_neg (by omega), List.drop_of_length_le (by omega), List.drop_of_length_le (by omega)]
    simp
  | succ d ih =>
    intro k i hi hd hk
    obtain ⟨k, rfl⟩ : ∃ j, k = j + 1 := ⟨k - 1, by omega⟩
    have hx : i < x.length := by omega
    have hy : i < y.length := by omega
    have w : wrap64 ((i : Int) + 1) = ((i + 1 : Nat) : Int) := by unfold wrap64; omega
    have rx : rd x (i : Int) = x[i] := by simp [rd, hx]
    have ry : rd y (i : Int) = y[i] := by simp [rd, hy]
    simp only [althinglaw06_same.l0]
    rw [if_pos (by omega), if_pos (by omega), if_pos (by omega), if_pos (by omega), rx, ry, w]
    rw [List.drop_eq_getElem_cons hx, List.drop_eq_getElem_cons hy]
    by_cases e : x[i] = y[i]
    · rw [if_pos e, ih k (i + 1) (by omega) (by omega) (by omega)]
      simp only [e, List.cons.injEq, true_and]
    · rw [if_neg e]
      simp only [List.cons.injEq, e, false_and, decide_false]
theorem same_eq (x y : List Int) (hl : x.length < 9223372036854775807) : ∃ k, althinglaw06_same.f k x y = some (decide (x = y)) := by
  unfold althinglaw06_same.f
  by_cases e : x.length = y.length
  · refine ⟨x.length + 1, ?_⟩
    rw [if_pos (by omega)]
    have := same_rest x y e hl x.length (x.length + 1) 0 (by omega) (by omega) (by omega)
    simpa using this
  · refine ⟨0, ?_⟩
    rw [if_neg (by omega)]
    have : x ≠ y := fun h => e (by rw [h])
    simp [this]
end Go.Proofs.YtafajpjonmnjbaaDoor.Fr
