/- The payload that bytes begin with, as the program tells it. -/
import Derived.Test.YtafajpjonmnjbaaDoorFb
import Derived.Test.YtafajpjonmnjbaaDoorKit2
import Derived.Deep.QuietTactic
import Derived.BigQuiet
import Derived.Deep.RegionHeld3
namespace Go.Proofs.YtafajpjonmnjbaaDoor.Fr
open Go.RowKit Go.Proofs.YtafajpjonmnjbaaDoorW.PrintWords Go.Proofs.YtafajpjonmnjbaaDoorW.PrintLast Go.Proofs.YtafajpjonmnjbaaDoorW.PrintMore Go.Proofs.YtafajpjonmnjbaaDoor.Kit Go.Proofs.YtafajpjonmnjbaaDoor.PFrameGets
set_option linter.unusedVariables false
set_option linter.unusedSimpArgs false
theorem elem22 : Tryd.prog.elem 22 = 5 := by kernel_rfl
theorem sizeOf5 (u : World) : (sizeOf 5).run Tryd.prog u = .ok 1 u := by kernel_rfl
theorem may_yes (n : Int) (w : World) (h : 1 ≤ n ∧ n ≤ 4096) : Calls Tryd.prog 22 #[.int .i64 n] w fun e w' => e = .returned (.bool true) ∧ w' = w := by
  have h1 : decide (1 ≤ n) = true := decide_eq_true h.1
  have h2 : decide (n ≤ 4096) = true := decide_eq_true h.2
  go_enter Tryd.func22, Tryd.ntmps22
  go_wp2
  go_ret
  exact ⟨rfl, rfl⟩
theorem may_no (n : Int) (w : World) (h : ¬ (1 ≤ n ∧ n ≤ 4096)) : Calls Tryd.prog 22 #[.int .i64 n] w fun e w' => e = .returned (.bool false) ∧ w' = w := by
  by_cases h1 : 1 ≤ n
  · have h2 : decide (n ≤ 4096) = false := decide_eq_false (by omega)
    have h1' : decide (1 ≤ n) = true := decide_eq_true h1
    go_enter Tryd.func22, Tryd.ntmps22
    go_wp2
    go_ret
    exact ⟨rfl, rfl⟩
  · have h1' : decide (1 ≤ n) = false := decide_eq_false h1
    go_enter Tryd.func22, Tryd.ntmps22
    go_wp2
    go_ret
    exact ⟨rfl, rfl⟩
/-- What Get tells: a payload in memory of its own, how long the frame is, and why there is none. -/
def GetPost (r : List Int) (n e0 : Int) (w : World) (e : Ending) (w' : World) : Prop :=
  ∃ v, e = .returned (.tuple #[v, .int .i64 n, .int .i64 e0]) ∧ Own .u8 5 w' w.heap.size v r ∧ Below w.heap.size w w'
theorem getPost_nil (n e0 : Int) {w w' : World} (h : Below w.heap.size w w') : GetPost [] n e0 w (.returned (.tuple #[.slice none 0 0, .int .i64 n, .int .i64 e0])) w' :=
  ⟨_, rfl, Kd.R_nil _ _ _ _ _, h⟩
theorem Get_short (A0 : Option Addr) (c0 : Nat) (l0 : List Int) (w : World) (h : l0.length < 4) : Calls Tryd.prog 17 #[.slice A0 l0.length c0] w (GetPost [] 0 3 w) := by
  have h1 : decide ((l0.length : Int) < 4) = true := decide_eq_true (by omega)
  go_enter Tryd.func17, Tryd.ntmps17
  go_wp2
  go_ret3
  exact getPost_nil 0 3 (by repeat (first | exact Below.refl _ _ | apply pw_below_drewN | apply below_drew1))
theorem Bytes.getD {l : List Int} (h : Bytes l) (i : Nat) : 0 ≤ l.getD i 0 ∧ l.getD i 0 < 256 := by
  by_cases hi : i < l.length
  · have := h l[i] (List.getElem_mem hi)
    simpa [hi] using this
  · rw [List.getD_eq_getElem?_getD, List.getElem?_eq_none (by omega)]; decide
/-- The first four bytes, as a walk reads them. -/
theorem four_cells {w : World} {A : Option Addr} {n : Nat} {xs : List Int} (h : Kd.C (Kd.int .u8) w A n xs) (h4 : 4 ≤ n) : ∃ ad, A = some ad ∧ w.cell? ad = some (.int .u8 (xs.getD 0 0)) ∧
    w.cell? ⟨ad.block, ad.off + 1, none⟩ = some (.int .u8 (xs.getD 1 0)) ∧ w.cell? ⟨ad.block, ad.off + 2, none⟩ = some (.int .u8 (xs.getD 2 0)) ∧ w.cell? ⟨ad.block, ad.off + 3, none⟩ = some (.int .u8 (xs.getD 3 0)) := by
  obtain ⟨ad, e, x0⟩ := at_nat h 0 (by omega)
  cases e
  obtain ⟨_, e, x1⟩ := at_nat h 1 (by omega)
  cases e
  obtain ⟨_, e, x2⟩ := at_nat h 2 (by omega)
  cases e
  obtain ⟨_, e, x3⟩ := at_nat h 3 (by omega)
  cases e
  exact ⟨ad, rfl, by simpa [Addr.add] using x0, by simpa [Addr.add] using x1, by simpa [Addr.add] using x2, by simpa [Addr.add] using x3⟩
set_option maxHeartbeats 4000000 in
set_option maxRecDepth 100000 in
theorem Get_form1 (A0 : Option Addr) (c0 : Nat) (l0 : List Int) (w : World) (hr0 : Kd.C (Kd.int .u8) w A0 l0.length l0) (h4 : 4 ≤ l0.length) (hy : Bytes l0) (h2 : l0.getD 2 0 ≠ not8 (l0.getD 0 0)) :
    Calls Tryd.prog 17 #[.slice A0 l0.length c0] w (GetPost [] 0 4 w) := by
  have hm := Kd.C_max hr0
  have HR0 := Aside0.mk hr0
  obtain ⟨ad, e, x0, x1, x2, x3⟩ := four_cells hr0 h4
  cases e
  have y0 := hy.getD 0
  have y1 := hy.getD 1
  generalize l0.getD 0 0 = b0 at *
  generalize l0.getD 1 0 = b1 at *
  generalize l0.getD 2 0 = b2 at *
  generalize l0.getD 3 0 = b3 at *
  obtain ⟨y00, y01⟩ := y0
  obtain ⟨y10, y11⟩ := y1
  have hsg : IntKind.u8.signed = false := rfl
  have d4 : decide ((l0.length : Int) < 4) = false := decide_eq_false (by omega)
  have i0 : (0 : Int) < (l0.length : Int) := by omega
  have i0n : 0 < l0.length := by omega
  have i0e : ¬ l0 = [] := fun h => by rw [h] at i0n; exact absurd i0n (by decide)
  have i1 : (1 : Int) < (l0.length : Int) := by omega
  have i2 : (2 : Int) < (l0.length : Int) := by omega
  have i3 : (3 : Int) < (l0.length : Int) := by omega
  have q2 : (b2 != Go.bits .xor .u8 IntKind.u8.max b0) = true := bne_iff_ne.mpr h2
  clear h2 hr0 hy
  go_enter Tryd.func17, Tryd.ntmps17
  go_wp2
  go_quiet (fail)
  go_wp2
  go_quiet (fail)
  go_wp2
  go_ret3
  exact getPost_nil 0 4 (by repeat (first | exact Below.refl _ _ | apply pw_below_drewN | apply below_drew1))
set_option maxHeartbeats 4000000 in
set_option maxRecDepth 100000 in
theorem Get_form2 (A0 : Option Addr) (c0 : Nat) (l0 : List Int) (w : World) (hr0 : Kd.C (Kd.int .u8) w A0 l0.length l0) (h4 : 4 ≤ l0.length) (hy : Bytes l0) (h2 : l0.getD 2 0 = not8 (l0.getD 0 0)) (h3 : l0.getD 3 0 ≠ not8 (l0.getD 1 0)) :
    Calls Tryd.prog 17 #[.slice A0 l0.length c0] w (GetPost [] 0 4 w) := by
  have hm := Kd.C_max hr0
  have HR0 := Aside0.mk hr0
  obtain ⟨ad, e, x0, x1, x2, x3⟩ := four_cells hr0 h4
  cases e
  have y0 := hy.getD 0
  have y1 := hy.getD 1
  generalize l0.getD 0 0 = b0 at *
  generalize l0.getD 1 0 = b1 at *
  generalize l0.getD 2 0 = b2 at *
  generalize l0.getD 3 0 = b3 at *
  obtain ⟨y00, y01⟩ := y0
  obtain ⟨y10, y11⟩ := y1
  have hsg : IntKind.u8.signed = false := rfl
  have d4 : decide ((l0.length : Int) < 4) = false := decide_eq_false (by omega)
  have i0 : (0 : Int) < (l0.length : Int) := by omega
  have i0n : 0 < l0.length := by omega
  have i0e : ¬ l0 = [] := fun h => by rw [h] at i0n; exact absurd i0n (by decide)
  have i1 : (1 : Int) < (l0.length : Int) := by omega
  have i2 : (2 : Int) < (l0.length : Int) := by omega
  have i3 : (3 : Int) < (l0.length : Int) := by omega
  have q2 : (b2 != Go.bits .xor .u8 IntKind.u8.max b0) = false := bne_eq_false_iff_eq.mpr h2
  have q3 : (b3 != Go.bits .xor .u8 IntKind.u8.max b1) = true := bne_iff_ne.mpr h3
  clear h2 h3 hr0 hy
  go_enter Tryd.func17, Tryd.ntmps17
  go_wp2
  go_quiet (fail)
  go_wp2
  go_quiet (fail)
  go_wp2
  go_ret3
  exact getPost_nil 0 4 (by repeat (first | exact Below.refl _ _ | apply pw_below_drewN | apply below_drew1))
set_option maxHeartbeats 4000000 in
set_option maxRecDepth 100000 in
theorem Get_form3 (A0 : Option Addr) (c0 : Nat) (l0 : List Int) (w : World) (hr0 : Kd.C (Kd.int .u8) w A0 l0.length l0) (h4 : 4 ≤ l0.length) (hy : Bytes l0) (m : Nat) (hn : Go.bits .or .i64 (l0.getD 0 0) (l0.getD 1 0 * 256) = (m : Int)) (h2 : l0.getD 2 0 = not8 (l0.getD 0 0)) (h3 : l0.getD 3 0 = not8 (l0.getD 1 0)) (hmay : ¬ (1 ≤ (m : Int) ∧ (m : Int) ≤ 4096)) :
    Calls Tryd.prog 17 #[.slice A0 l0.length c0] w (GetPost [] 0 4 w) := by
  have hm := Kd.C_max hr0
  have HR0 := Aside0.mk hr0
  obtain ⟨ad, e, x0, x1, x2, x3⟩ := four_cells hr0 h4
  cases e
  have y0 := hy.getD 0
  have y1 := hy.getD 1
  generalize l0.getD 0 0 = b0 at *
  generalize l0.getD 1 0 = b1 at *
  generalize l0.getD 2 0 = b2 at *
  generalize l0.getD 3 0 = b3 at *
  obtain ⟨y00, y01⟩ := y0
  obtain ⟨y10, y11⟩ := y1
  have hsg : IntKind.u8.signed = false := rfl
  have d4 : decide ((l0.length : Int) < 4) = false := decide_eq_false (by omega)
  have i0 : (0 : Int) < (l0.length : Int) := by omega
  have i0n : 0 < l0.length := by omega
  have i0e : ¬ l0 = [] := fun h => by rw [h] at i0n; exact absurd i0n (by decide)
  have i1 : (1 : Int) < (l0.length : Int) := by omega
  have i2 : (2 : Int) < (l0.length : Int) := by omega
  have i3 : (3 : Int) < (l0.length : Int) := by omega
  have q2 : (b2 != Go.bits .xor .u8 IntKind.u8.max b0) = false := bne_eq_false_iff_eq.mpr h2
  have q3 : (b3 != Go.bits .xor .u8 IntKind.u8.max b1) = false := bne_eq_false_iff_eq.mpr h3
  have HM := Aside0.mk hmay
  clear h2 h3 hr0 hy hmay
  go_enter Tryd.func17, Tryd.ntmps17
  go_wp2
  go_quiet (fail)
  go_wp2
  go_region_held3 (fun w' => w'.cell? ad = some (.int .u8 b0) ∧ w'.cell? ⟨ad.block, ad.off + 1, none⟩ = some (.int .u8 b1) ∧ w'.cell? ⟨ad.block, ad.off + 2, none⟩ = some (.int .u8 b2) ∧ w'.cell? ⟨ad.block, ad.off + 3, none⟩ = some (.int .u8 b3)) (go_keep) (first | (go_at_call 22; (with_reducible refine (may_no _ _ HM.out).mono ?_); rintro e w' ⟨rfl, rfl⟩))
  go_wp2
  go_ret3
  exact getPost_nil 0 4 (by repeat (first | exact Below.refl _ _ | apply pw_below_drewN | apply below_drew1))
set_option maxHeartbeats 4000000 in
set_option maxRecDepth 100000 in
theorem Get_short2 (A0 : Option Addr) (c0 : Nat) (l0 : List Int) (w : World) (hr0 : Kd.C (Kd.int .u8) w A0 l0.length l0) (h4 : 4 ≤ l0.length) (hy : Bytes l0) (m : Nat) (hn : Go.bits .or .i64 (l0.getD 0 0) (l0.getD 1 0 * 256) = (m : Int)) (h2 : l0.getD 2 0 = not8 (l0.getD 0 0)) (h3 : l0.getD 3 0 = not8 (l0.getD 1 0)) (hmay : 1 ≤ (m : Int) ∧ (m : Int) ≤ 4096) (hs : l0.length < m + 8) :
    Calls Tryd.prog 17 #[.slice A0 l0.length c0] w (GetPost [] 0 3 w) := by
  have hm := Kd.C_max hr0
  have HR0 := Aside0.mk hr0
  obtain ⟨ad, e, x0, x1, x2, x3⟩ := four_cells hr0 h4
  cases e
  have y0 := hy.getD 0
  have y1 := hy.getD 1
  generalize l0.getD 0 0 = b0 at *
  generalize l0.getD 1 0 = b1 at *
  generalize l0.getD 2 0 = b2 at *
  generalize l0.getD 3 0 = b3 at *
  obtain ⟨y00, y01⟩ := y0
  obtain ⟨y10, y11⟩ := y1
  have hsg : IntKind.u8.signed = false := rfl
  have d4 : decide ((l0.length : Int) < 4) = false := decide_eq_false (by omega)
  have i0 : (0 : Int) < (l0.length : Int) := by omega
  have i0n : 0 < l0.length := by omega
  have i0e : ¬ l0 = [] := fun h => by rw [h] at i0n; exact absurd i0n (by decide)
  have i1 : (1 : Int) < (l0.length : Int) := by omega
  have i2 : (2 : Int) < (l0.length : Int) := by omega
  have i3 : (3 : Int) < (l0.length : Int) := by omega
  have q2 : (b2 != Go.bits .xor .u8 IntKind.u8.max b0) = false := bne_eq_false_iff_eq.mpr h2
  have q3 : (b3 != Go.bits .xor .u8 IntKind.u8.max b1) = false := bne_eq_false_iff_eq.mpr h3
  have HM := Aside0.mk hmay
  have esz : sizeOfN (m : Int) = (m : Int) + 8 := if_pos hmay
  have m1 : 1 ≤ m := by omega
  have m2 : m ≤ 4096 := by omega
  have d8 : decide ((l0.length : Int) < (m : Int) + 8) = true := decide_eq_true (by omega)
  clear h2 h3 hr0 hy hmay
  go_enter Tryd.func17, Tryd.ntmps17
  go_wp2
  go_quiet (fail)
  go_wp2
  go_region_held3 (fun w' => w'.cell? ad = some (.int .u8 b0) ∧ w'.cell? ⟨ad.block, ad.off + 1, none⟩ = some (.int .u8 b1) ∧ w'.cell? ⟨ad.block, ad.off + 2, none⟩ = some (.int .u8 b2) ∧ w'.cell? ⟨ad.block, ad.off + 3, none⟩ = some (.int .u8 b3)) (go_keep) (first | (go_at_call 22; (with_reducible refine (may_yes _ _ HM.out).mono ?_); rintro e w' ⟨rfl, rfl⟩))
  go_wp2_with (first | (go_at_call 15; (with_reducible refine (size_calls _ _).mono ?_); rintro e w4 ⟨rfl, ⟨m4, rfl⟩⟩; rw [esz]))
  go_ret3
  exact getPost_nil 0 3 (by repeat (first | exact Below.refl _ _ | apply pw_below_drewN | apply below_drew1))
end Go.Proofs.YtafajpjonmnjbaaDoor.Fr
