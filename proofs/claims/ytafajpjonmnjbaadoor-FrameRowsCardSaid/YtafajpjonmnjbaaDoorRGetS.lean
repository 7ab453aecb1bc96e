/- The reference's Get, as the same function of the bytes. -/
import Derived.Test.YtafajpjonmnjbaaDoorRGetMain
namespace Go.Proofs.YtafajpjonmnjbaaDoor.Fr
open Go.RowKit Go.Proofs.YtafajpjonmnjbaaDoorW.PrintWords Go.Proofs.YtafajpjonmnjbaaDoorW.PrintLast Go.Proofs.YtafajpjonmnjbaaDoorW.PrintMore Go.Proofs.YtafajpjonmnjbaaDoor.Kit Go.Proofs.YtafajpjonmnjbaaDoor.PFrameGets
set_option linter.unusedVariables false
set_option linter.unusedSimpArgs false
theorem head_of (l : List Int) (hy : Bytes l) (h4 : 4 ≤ l.length) (h2 : l.getD 2 0 = not8 (l.getD 0 0)) (h3 : l.getD 3 0 = not8 (l.getD 1 0)) : l.take 4 = hdr (sayN l : Int) := by
  have y0 := hy.getD 0
  have y1 := hy.getD 1
  match l, h4 with
  | a :: b :: c :: d :: r, _ =>
    simp only [List.getD_cons_zero, List.getD_cons_succ] at h2 h3 y0 y1
    have e : (sayN (a :: b :: c :: d :: r) : Int) = a + 256 * b := by
      simp only [sayN, List.getD_cons_zero, List.getD_cons_succ]
      omega
    rw [e]
    have e1 : (a + 256 * b) % 256 = a := by omega
    have e2 : (a + 256 * b) / 256 = b := by omega
    simp [hdr, e1, e2, h2, h3]
theorem frame_iff (l : List Int) (hy : Bytes l) (h4 : 4 ≤ l.length) (h2 : l.getD 2 0 = not8 (l.getD 0 0)) (h3 : l.getD 3 0 = not8 (l.getD 1 0)) (hs : sayN l + 8 ≤ l.length) :
    frame ((l.take (4 + sayN l)).drop 4) = l.take (sayN l + 8) ↔ (l.take (sayN l + 8)).drop (4 + sayN l) = sumBytes (crc (l.take (4 + sayN l))) 4 := by
  have hh := head_of l hy h4 h2 h3
  generalize sayN l = m at *
  have e1 : hdr (((l.take (4 + m)).drop 4).length : Int) ++ (l.take (4 + m)).drop 4 = l.take (4 + m) := by
    have : ((l.take (4 + m)).drop 4).length = m := by simp; omega
    rw [this, ← hh]
    have e : l.take 4 = (l.take (4 + m)).take 4 := by rw [List.take_take]; congr 1; omega
    rw [e, List.take_append_drop]
  have e2 : l.take (m + 8) = l.take (4 + m) ++ (l.take (m + 8)).drop (4 + m) := by
    have e : l.take (4 + m) = (l.take (m + 8)).take (4 + m) := by rw [List.take_take]; congr 1; omega
    rw [e, List.take_append_drop]
  unfold frame
  rw [e1]
  constructor
  · intro h
    rw [e2] at h
    exact (List.append_cancel_left h).symm
  · intro h
    rw [← h]
    exact e2.symm
theorem RGet_calls (A0 : Option Addr) (c0 : Nat) (l0 : List Int) (w : World) (hr0 : Kd.C (Kd.int .u8) w A0 l0.length l0) (hc0 : l0.length ≤ c0) (hy : Bytes l0) :
    Calls Tryd.prog 18 #[.slice A0 l0.length c0] w (RefGetPost A0 l0 (getS l0).1 (getS l0).2.1 (getS l0).2.2 w) := by
  by_cases h4 : l0.length < 4
  · have e : getS l0 = ([], 0, 3) := if_pos h4
    rw [e]
    exact RGet_short A0 c0 l0 w h4
  · have h4' : 4 ≤ l0.length := by omega
    have hn : l0.getD 0 0 + 256 * l0.getD 1 0 = (sayN l0 : Int) := by
      have y0 := hy.getD 0
      have y1 := hy.getD 1
      unfold sayN
      omega
    by_cases h2 : l0.getD 2 0 = not8 (l0.getD 0 0)
    · by_cases h3 : l0.getD 3 0 = not8 (l0.getD 1 0)
      · by_cases hm : 1 ≤ (sayN l0 : Int) ∧ (sayN l0 : Int) ≤ 4096
        · by_cases h8 : l0.length < sayN l0 + 8
          · have e : getS l0 = ([], 0, 3) := by unfold getS; rw [if_neg h4, if_pos ⟨h2, h3, hm⟩, if_pos h8]
            rw [e]
            exact RGet_short2 A0 c0 l0 w hr0 h4' hy (sayN l0) hn h2 h3 hm h8
          · have hf := frame_iff l0 hy h4' h2 h3 (by omega)
            by_cases ht : (l0.take (sayN l0 + 8)).drop (4 + sayN l0) = sumBytes (crc (l0.take (4 + sayN l0))) 4
            · have e : getS l0 = ((l0.take (4 + sayN l0)).drop 4, (sayN l0 : Int) + 8, 0) := by unfold getS; rw [if_neg h4, if_pos ⟨h2, h3, hm⟩, if_neg h8, if_pos ht]
              rw [e]
              exact RGet_main A0 c0 l0 w hr0 h4' hy (sayN l0) hn h2 h3 hm hc0 (by omega) (hf.2 ht)
            · have e : getS l0 = ([], 0, 6) := by unfold getS; rw [if_neg h4, if_pos ⟨h2, h3, hm⟩, if_neg h8, if_neg ht]
              rw [e]
              exact RGet_sum A0 c0 l0 w hr0 h4' hy (sayN l0) hn h2 h3 hm hc0 (by omega) (fun h => ht (hf.1 h))
        · have e : getS l0 = ([], 0, 4) := by unfold getS; rw [if_neg h4, if_neg (fun h => hm h.2.2)]
          rw [e]
          by_cases hlo : (sayN l0 : Int) < 1
          · exact RGet_lo A0 c0 l0 w hr0 h4' hy (sayN l0) hn h2 h3 hlo
          · exact RGet_hi A0 c0 l0 w hr0 h4' hy (sayN l0) hn h2 h3 (by omega)
      · have e : getS l0 = ([], 0, 4) := by unfold getS; rw [if_neg h4, if_neg (fun h => h3 h.2.1)]
        rw [e]
        exact RGet_form2 A0 c0 l0 w hr0 h4' hy h2 h3
    · have e : getS l0 = ([], 0, 4) := by unfold getS; rw [if_neg h4, if_neg (fun h => h2 h.1)]
      rw [e]
      exact RGet_form1 A0 c0 l0 w hr0 h4' hy h2
end Go.Proofs.YtafajpjonmnjbaaDoor.Fr
