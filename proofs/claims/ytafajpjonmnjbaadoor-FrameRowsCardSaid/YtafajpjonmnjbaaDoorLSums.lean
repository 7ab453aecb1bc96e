import Derived.Test.YtafajpjonmnjbaaDoorRows
import Derived.Lib.LaidTab
import Derived.Test.YtafajpjonmnjbaaDoorAwake
import Derived.Test.YtafajpjonmnjbaaDoorCrcLink
namespace Go.Proofs.YtafajpjonmnjbaaDoor.Fr
open Go.RowKit Go.Proofs.YtafajpjonmnjbaaDoorW.PrintWords Go.Proofs.YtafajpjonmnjbaaDoorW.PrintLast Go.Proofs.YtafajpjonmnjbaaDoorW.PrintMore Go.Proofs.YtafajpjonmnjbaaDoor.Kit Go.Proofs.YtafajpjonmnjbaaDoor.PFrameGets
set_option linter.unusedVariables false
set_option linter.unusedSimpArgs false
theorem ref_sum_calls (A0 : Option Addr) (c0 : Nat) (l0 : List Int) (w : World) (hr0 : Kd.C (Kd.int .u8) w A0 l0.length l0) (hc0 : l0.length ≤ c0) (hb : Bytes l0) (hl : l0.length ≤ 100000) :
    Calls Tryd.prog 12 #[.slice A0 l0.length c0] w fun e w' => e = .returned (.int .u32 (crc l0)) ∧ Drawn0 w w' := by
  obtain ⟨k, h⟩ := ref_sum l0 hb (by omega)
  exact althingref06_Sum.calls k A0 c0 l0 (crc l0) w hr0 hc0 h
theorem same_calls (A0 : Option Addr) (c0 : Nat) (l0 : List Int) (A1 : Option Addr) (c1 : Nat) (l1 : List Int) (w : World) (hr0 : Kd.C (Kd.int .u8) w A0 l0.length l0) (hc0 : l0.length ≤ c0) (hr1 : Kd.C (Kd.int .u8) w A1 l1.length l1) (hc1 : l1.length ≤ c1) (hl : l0.length ≤ 1000000) :
    Calls Tryd.prog 13 #[.slice A0 l0.length c0, .slice A1 l1.length c1] w fun e w' => e = .returned (.bool (decide (l0 = l1))) ∧ Drawn0 w w' := by
  obtain ⟨k, h⟩ := same_eq l0 l1 (by omega)
  exact althinglaw06_same.calls k A0 c0 l0 A1 c1 l1 _ w hr0 hc0 hr1 hc1 h
/-- What own left reads as its bytes. -/
theorem own_reads {w' : World} {g : Nat} {l : List Int} (h : w'.heap[g]? = some (.cells (nums .u8 l ++ List.replicate 16 (Value.int .u8 0)).toArray 5 (0, 0))) (hl : l.length ≤ 100000) : Kd.C (Kd.int .u8) w' (some ⟨g, 0, none⟩) l.length l :=
  C_of_block h (fun i hi => by simp [nums, hi, List.getElem?_append]) (by omega)
set_option maxHeartbeats 1000000 in
theorem law_sums (A0 : Option Addr) (c0 : Nat) (l0 : List Int) (w : World) (hr0 : Kd.C (Kd.int .u8) w A0 l0.length l0) (hc0 : l0.length ≤ c0) (hT : Steps w) (hb : Bytes l0) :
    Calls Tryd.prog 3 #[.slice A0 l0.length c0] w (TruePost w) := by
  have HR0 := Aside0.mk hr0
  have HT := Aside0.mk hT
  have HBY := Aside0.mk hb
  have hm := Kd.C_max hr0
  clear hr0 hT hb
  by_cases hl : 4500 < l0.length
  · go_enter Tryd.func3, Tryd.ntmps3
    go_wp2_with (go_at_call 9; (with_reducible refine (awake_calls _ HT.out).mono ?_); rintro e w1 ⟨rfl, hb1⟩; have HB1 := Aside0.mk hb1; clear hb1)
    go_ret
    exact ⟨rfl, HB1.out⟩
  · go_enter Tryd.func3, Tryd.ntmps3
    go_wp2_with (first | (go_at_call 10; (with_reducible refine (own_calls A0 c0 l0 _ HR0.out (by omega)).mono ?_); rintro e w1 ⟨g, rfl, hg, hb1, hbel⟩; have HG := Aside0.mk hb1; have HB1 := Aside0.mk hbel; have HRX := Aside0.mk (own_reads hb1 (by omega)); clear hg hb1 hbel) | (go_at_call 11; (with_reducible refine (Sum_calls _ _ l0 _ HRX.out (by omega) (HT.out.below HB1.out)).mono ?_); rintro e w2 ⟨rfl, ⟨n2, rfl⟩⟩) | (go_at_call 12; (with_reducible refine (ref_sum_calls A0 c0 l0 _ (Kd.C_drewN (Kd.C_below HR0.out HB1.out) _) hc0 HBY.out (by omega)).mono ?_); rintro e w3 ⟨rfl, ⟨n3, rfl⟩⟩) | (go_at_call 13; (with_reducible refine (same_calls _ _ l0 A0 c0 l0 _ (Kd.C_drewN HRX.out _) (by omega) (Kd.C_drewN (Kd.C_below HR0.out HB1.out) _) hc0 (by omega)).mono ?_); rintro e w4 ⟨rfl, ⟨n4, rfl⟩⟩; rw [decide_eq_true (rfl : l0 = l0)]) | (go_at_call 9; (with_reducible refine (awake_calls _ (HT.out.below (pw_below_drewN HB1.out _))).mono ?_); rintro e w5 ⟨rfl, hb5⟩; have HB5 := Aside0.mk (below_then (pw_below_drewN HB1.out _) (pw_below_drewN HB1.out _).size hb5); clear hb5))
    go_ret
    exact ⟨rfl, HB5.out⟩
/-- What the row's list gives: the table's cells. -/
theorem steps_of {W : World} (h : Lib.TabIs Tryd.prog W "althing/frame.steps" .u32 tbl) (hg : Tryd.prog.globalNamed "althing/frame.steps" = some 0) : Steps W := fun x h0 h1 => by
  have := h.cell hg x.toNat (by simp [tbl]; omega)
  exact this
theorem bytes_of {l : List Int} (h : ∀ n ∈ l, (Lit.int .u8 n).wf = true) : Bytes l := fun x hx => by
  have := h x hx
  simp only [Lit.wf, Bool.and_eq_true, decide_eq_true_eq] at this
  have e1 : IntKind.u8.min = 0 := rfl
  have e2 : IntKind.u8.max = 255 := rfl
  omega
theorem gSteps : Tryd.prog.globalNamed "althing/frame.steps" = some 0 := by kernel_rfl
theorem gStepsType : (Tryd.prog.globals[0]?).map (·.type) = some 47 := by kernel_rfl
theorem table {W : World} (h : laidMetH Tryd.prog Rows.frameSumsRow.laid W) : Steps W :=
  steps_of (Lib.tabIs_of_head (rest := []) gSteps gStepsType Tryd.underlying47 Tryd.underlying25 (by kernel_rfl) (by kernel_rfl) h) gSteps
end Go.Proofs.YtafajpjonmnjbaaDoor.Fr
