/- Get, as one function of the bytes. -/
import Derived.Test.YtafajpjonmnjbaaDoorGetMain
namespace Go.Proofs.YtafajpjonmnjbaaDoor.Fr
open Go.RowKit Go.Proofs.YtafajpjonmnjbaaDoorW.PrintWords Go.Proofs.YtafajpjonmnjbaaDoorW.PrintLast Go.Proofs.YtafajpjonmnjbaaDoorW.PrintMore Go.Proofs.YtafajpjonmnjbaaDoor.Kit Go.Proofs.YtafajpjonmnjbaaDoor.PFrameGets
set_option linter.unusedVariables false
set_option linter.unusedSimpArgs false
/-- how long the payload is said to be -/
def sayN (b : List Int) : Nat := (b.getD 0 0 + 256 * b.getD 1 0).toNat
def getS (b : List Int) : List Int × Int × Int :=
  if b.length < 4 then ([], 0, 3)
  else if b.getD 2 0 = not8 (b.getD 0 0) ∧ b.getD 3 0 = not8 (b.getD 1 0) ∧ (1 ≤ (sayN b : Int) ∧ (sayN b : Int) ≤ 4096) then
    (if b.length < sayN b + 8 then ([], 0, 3)
     else if (b.take (sayN b + 8)).drop (4 + sayN b) = sumBytes (crc (b.take (4 + sayN b))) 4 then ((b.take (4 + sayN b)).drop 4, (sayN b : Int) + 8, 0) else ([], 0, 6))
  else ([], 0, 4)
theorem or_bytes (a b : Int) (ha0 : 0 ≤ a) (ha : a < 256) (hb0 : 0 ≤ b) (hb : b < 256) : Go.bits .or .i64 a (b * 256) = a + 256 * b := by
  obtain ⟨x, rfl⟩ := Int.eq_ofNat_of_zero_le ha0
  obtain ⟨y, rfl⟩ := Int.eq_ofNat_of_zero_le hb0
  have hw : ∀ n : Int, 0 ≤ n → n < 2 ^ 16 → IntKind.i64.wrap n = n := fun n h0 h1 => by rw [IntKind.wrap_i64]; omega
  have e1 : ((y : Int) * 256) = ((y * 256 : Nat) : Int) := by omega
  have h1 := (bits_nat .i64 16 (by decide) hw x (y * 256) (by omega) (by omega)).2
  have h2 := (bits_nat .i64 16 (by decide) hw (y * 256) x (by omega) (by omega)).2
  have h3 := bits_join .i64 16 (by decide) hw 8 ((y * 256 : Nat) : Int) (x : Int) (by omega) (by omega) (by omega) (by omega) (by omega) (by omega)
  rw [e1, h1, Nat.or_comm, ← h2, h3]
  omega
theorem say_or (l0 : List Int) (hy : Bytes l0) : Go.bits .or .i64 (l0.getD 0 0) (l0.getD 1 0 * 256) = (sayN l0 : Int) := by
  have y0 := hy.getD 0
  have y1 := hy.getD 1
  rw [or_bytes _ _ y0.1 y0.2 y1.1 y1.2]
  unfold sayN
  omega
theorem Get_calls (A0 : Option Addr) (c0 : Nat) (l0 : List Int) (w : World) (hr0 : Kd.C (Kd.int .u8) w A0 l0.length l0) (hc0 : l0.length ≤ c0) (hy : Bytes l0) (hT : Steps w) :
    Calls Tryd.prog 17 #[.slice A0 l0.length c0] w (GetPost (getS l0).1 (getS l0).2.1 (getS l0).2.2 w) := by
  by_cases h4 : l0.length < 4
  · have e : getS l0 = ([], 0, 3) := if_pos h4
    rw [e]
    exact Get_short A0 c0 l0 w h4
  · have h4' : 4 ≤ l0.length := by omega
    by_cases h2 : l0.getD 2 0 = not8 (l0.getD 0 0)
    · by_cases h3 : l0.getD 3 0 = not8 (l0.getD 1 0)
      · by_cases hm : 1 ≤ (sayN l0 : Int) ∧ (sayN l0 : Int) ≤ 4096
        · by_cases h8 : l0.length < sayN l0 + 8
          · have e : getS l0 = ([], 0, 3) := by unfold getS; rw [if_neg h4, if_pos ⟨h2, h3, hm⟩, if_pos h8]
            rw [e]
            exact Get_short2 A0 c0 l0 w hr0 h4' hy (sayN l0) (say_or l0 hy) h2 h3 hm h8
          · by_cases ht : (l0.take (sayN l0 + 8)).drop (4 + sayN l0) = sumBytes (crc (l0.take (4 + sayN l0))) 4
            · have e : getS l0 = ((l0.take (4 + sayN l0)).drop 4, (sayN l0 : Int) + 8, 0) := by unfold getS; rw [if_neg h4, if_pos ⟨h2, h3, hm⟩, if_neg h8, if_pos ht]
              rw [e]
              exact Get_main A0 c0 l0 w hr0 h4' hy (sayN l0) (say_or l0 hy) h2 h3 hm hc0 (by omega) hT ht
            · have e : getS l0 = ([], 0, 6) := by unfold getS; rw [if_neg h4, if_pos ⟨h2, h3, hm⟩, if_neg h8, if_neg ht]
              rw [e]
              exact Get_sum A0 c0 l0 w hr0 h4' hy (sayN l0) (say_or l0 hy) h2 h3 hm hc0 (by omega) hT ht
        · have e : getS l0 = ([], 0, 4) := by unfold getS; rw [if_neg h4, if_neg (fun h => hm h.2.2)]
          rw [e]
          exact Get_form3 A0 c0 l0 w hr0 h4' hy (sayN l0) (say_or l0 hy) h2 h3 hm
      · have e : getS l0 = ([], 0, 4) := by unfold getS; rw [if_neg h4, if_neg (fun h => h3 h.2.1)]
        rw [e]
        exact Get_form2 A0 c0 l0 w hr0 h4' hy h2 h3
    · have e : getS l0 = ([], 0, 4) := by unfold getS; rw [if_neg h4, if_neg (fun h => h2 h.1)]
      rw [e]
      exact Get_form1 A0 c0 l0 w hr0 h4' hy h2
end Go.Proofs.YtafajpjonmnjbaaDoor.Fr
