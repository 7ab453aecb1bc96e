/- The payload that bytes begin with, as the reference tells it. -/
import Derived.Test.YtafajpjonmnjbaaDoorGetS
namespace Go.Proofs.YtafajpjonmnjbaaDoor.Fr
open Go.RowKit Go.Proofs.YtafajpjonmnjbaaDoorW.PrintWords Go.Proofs.YtafajpjonmnjbaaDoorW.PrintLast Go.Proofs.YtafajpjonmnjbaaDoorW.PrintMore Go.Proofs.YtafajpjonmnjbaaDoor.Kit Go.Proofs.YtafajpjonmnjbaaDoor.PFrameGets
set_option linter.unusedVariables false
set_option linter.unusedSimpArgs false
/-- A cut of a row: where it lies, and what it reads, in whatever world the row reads so. -/
theorem cut_lhW {A : Option Addr} {c : Nat} {xs : List Int} (hc : xs.length ≤ c) (l h : Nat) (L H : Int) (hL : L = l) (hH : H = h) (hl : l ≤ h) (hh : h ≤ xs.length) :
    ∃ A', (∀ u, (Instr.slice 22 (.slice A xs.length c) (some (.int .i64 L)) (some (.int .i64 H)) none).run Tryd.prog u = .ok (.slice A' (h - l) (c - l)) u) ∧ ∀ W, Kd.C (Kd.int .u8) W A xs.length xs → Kd.C (Kd.int .u8) W A' (h - l) ((xs.take h).drop l) := by
  have hlen : (xs.take h).length = h := by simp; omega
  refine ⟨if c = l then A else A.map (·.add (l * (Kd.int .u8).sz)), fun u => ?_, fun W hC => ?_⟩
  rotate_left
  · have h1 := Kd.C_take hC hh
    have h2 := Kd.C_drop (c := c) h1 (show l ≤ (xs.take h).length by omega) (by omega)
    rw [List.length_drop, hlen] at h2
    exact h2
  · subst hL; subst hH
    rw [run_slice_lh (w := u) (t := 22) (a := A) (len := xs.length) (cap := c) (by rw [elem22]; exact Tryd.underlying22) .i64 .i64 _ _ (by omega) (by omega) (by omega), elem22, sizeOf5]
    simp only [Result.andThen, sliced, Int.toNat_natCast]
    rfl
theorem cut_lW {A : Option Addr} {c : Nat} {xs : List Int} (hc : xs.length ≤ c) (l : Nat) (L : Int) (hL : L = l) (hl : l ≤ xs.length) :
    ∃ A', (∀ u, (Instr.slice 22 (.slice A xs.length c) (some (.int .i64 L)) none none).run Tryd.prog u = .ok (.slice A' (xs.length - l) (c - l)) u) ∧ ∀ W, Kd.C (Kd.int .u8) W A xs.length xs → Kd.C (Kd.int .u8) W A' (xs.length - l) (xs.drop l) := by
  refine ⟨if c = l then A else A.map (·.add (l * (Kd.int .u8).sz)), fun u => ?_, fun W hC => ?_⟩
  rotate_left
  · have h2 := Kd.C_drop (c := c) hC hl hc
    rw [List.length_drop] at h2
    exact h2
  · subst hL
    rw [run_slice_l (w := u) (t := 22) (a := A) (len := xs.length) (cap := c) (by rw [elem22]; exact Tryd.underlying22) .i64 _ (by omega) (by omega), elem22, sizeOf5]
    simp only [Result.andThen, sliced, Int.toNat_natCast]
    rfl
/-- What the reference's Get tells: a cut of what came in, how long the frame is, and why there is none. -/
def RefGetPost (A0 : Option Addr) (l0 : List Int) (r : List Int) (n e0 : Int) (w : World) (e : Ending) (w' : World) : Prop :=
  ∃ A c, e = .returned (.tuple #[.slice A r.length c, .int .i64 n, .int .i64 e0]) ∧ r.length ≤ c ∧ (∀ W, Kd.C (Kd.int .u8) W A0 l0.length l0 → Kd.C (Kd.int .u8) W A r.length r) ∧ Below w.heap.size w w'
theorem refPost_nil {A0 : Option Addr} {l0 : List Int} (n e0 : Int) {w w' : World} (h : Below w.heap.size w w') : RefGetPost A0 l0 [] n e0 w (.returned (.tuple #[.slice none 0 0, .int .i64 n, .int .i64 e0])) w' :=
  ⟨none, 0, rfl, by simp, fun W _ => Kd.C_nil _ _, h⟩
theorem RGet_short (A0 : Option Addr) (c0 : Nat) (l0 : List Int) (w : World) (h : l0.length < 4) : Calls Tryd.prog 18 #[.slice A0 l0.length c0] w (RefGetPost A0 l0 [] 0 3 w) := by
  have h1 : decide ((l0.length : Int) < 4) = true := decide_eq_true (by omega)
  go_enter Tryd.func18, Tryd.ntmps18
  go_wp2
  go_ret3
  exact refPost_nil 0 3 (by repeat (first | exact Below.refl _ _ | apply pw_below_drewN | apply below_drew1))
set_option maxHeartbeats 4000000 in
set_option maxRecDepth 100000 in
theorem RGet_form1 (A0 : Option Addr) (c0 : Nat) (l0 : List Int) (w : World) (hr0 : Kd.C (Kd.int .u8) w A0 l0.length l0) (h4 : 4 ≤ l0.length) (hy : Bytes l0) (h2 : l0.getD 2 0 ≠ not8 (l0.getD 0 0)) :
    Calls Tryd.prog 18 #[.slice A0 l0.length c0] w (RefGetPost A0 l0 [] 0 4 w) := by
  have hm := Kd.C_max hr0
  have HR0 := Aside0.mk hr0
  obtain ⟨ad, e, x0, x1, x2, x3⟩ := four_cells hr0 h4
  cases e
  have y0 := hy.getD 0
  have y1 := hy.getD 1
  have y2 := hy.getD 2
  have y3 := hy.getD 3
  try rw [not8_eq _ y0.1 y0.2] at h2
  try rw [not8_eq _ y1.1 y1.2] at h3
  generalize l0.getD 0 0 = b0 at *
  generalize l0.getD 1 0 = b1 at *
  generalize l0.getD 2 0 = b2 at *
  generalize l0.getD 3 0 = b3 at *
  obtain ⟨y00, y01⟩ := y0
  obtain ⟨y10, y11⟩ := y1
  obtain ⟨y20, y21⟩ := y2
  obtain ⟨y30, y31⟩ := y3
  have d4 : decide ((l0.length : Int) < 4) = false := decide_eq_false (by omega)
  have i0 : (0 : Int) < (l0.length : Int) := by omega
  have i0n : 0 < l0.length := by omega
  have i0e : ¬ l0 = [] := fun h => by rw [h] at i0n; exact absurd i0n (by decide)
  have i1 : (1 : Int) < (l0.length : Int) := by omega
  have i2 : (2 : Int) < (l0.length : Int) := by omega
  have i3 : (3 : Int) < (l0.length : Int) := by omega
  have q2 : (b0 + b2 != 255) = true := bne_iff_ne.mpr (by omega)
  have hw1 : IntKind.i64.wrap (256 * b1) = 256 * b1 := by rw [IntKind.wrap_i64]; omega
  have hw2 : IntKind.i64.wrap (b0 + 256 * b1) = b0 + 256 * b1 := by rw [IntKind.wrap_i64]; omega
  have hw3 : IntKind.i64.wrap (b0 + b2) = b0 + b2 := by rw [IntKind.wrap_i64]; omega
  have hw4 : IntKind.i64.wrap (b1 + b3) = b1 + b3 := by rw [IntKind.wrap_i64]; omega
  clear h2 hr0 hy
  go_enter Tryd.func18, Tryd.ntmps18
  go_wp2
  go_quiet (fail)
  go_wp2
  go_quiet (fail)
  go_wp2
  go_ret3
  exact refPost_nil 0 4 (by repeat (first | exact Below.refl _ _ | apply pw_below_drewN | apply below_drew1))
set_option maxHeartbeats 4000000 in
set_option maxRecDepth 100000 in
theorem RGet_form2 (A0 : Option Addr) (c0 : Nat) (l0 : List Int) (w : World) (hr0 : Kd.C (Kd.int .u8) w A0 l0.length l0) (h4 : 4 ≤ l0.length) (hy : Bytes l0) (h2 : l0.getD 2 0 = not8 (l0.getD 0 0)) (h3 : l0.getD 3 0 ≠ not8 (l0.getD 1 0)) :
    Calls Tryd.prog 18 #[.slice A0 l0.length c0] w (RefGetPost A0 l0 [] 0 4 w) := by
  have hm := Kd.C_max hr0
  have HR0 := Aside0.mk hr0
  obtain ⟨ad, e, x0, x1, x2, x3⟩ := four_cells hr0 h4
  cases e
  have y0 := hy.getD 0
  have y1 := hy.getD 1
  have y2 := hy.getD 2
  have y3 := hy.getD 3
  try rw [not8_eq _ y0.1 y0.2] at h2
  try rw [not8_eq _ y1.1 y1.2] at h3
  generalize l0.getD 0 0 = b0 at *
  generalize l0.getD 1 0 = b1 at *
  generalize l0.getD 2 0 = b2 at *
  generalize l0.getD 3 0 = b3 at *
  obtain ⟨y00, y01⟩ := y0
  obtain ⟨y10, y11⟩ := y1
  obtain ⟨y20, y21⟩ := y2
  obtain ⟨y30, y31⟩ := y3
  have d4 : decide ((l0.length : Int) < 4) = false := decide_eq_false (by omega)
  have i0 : (0 : Int) < (l0.length : Int) := by omega
  have i0n : 0 < l0.length := by omega
  have i0e : ¬ l0 = [] := fun h => by rw [h] at i0n; exact absurd i0n (by decide)
  have i1 : (1 : Int) < (l0.length : Int) := by omega
  have i2 : (2 : Int) < (l0.length : Int) := by omega
  have i3 : (3 : Int) < (l0.length : Int) := by omega
  have q2 : (b0 + b2 != 255) = false := bne_eq_false_iff_eq.mpr (by omega)
  have q3 : (b1 + b3 != 255) = true := bne_iff_ne.mpr (by omega)
  have hw1 : IntKind.i64.wrap (256 * b1) = 256 * b1 := by rw [IntKind.wrap_i64]; omega
  have hw2 : IntKind.i64.wrap (b0 + 256 * b1) = b0 + 256 * b1 := by rw [IntKind.wrap_i64]; omega
  have hw3 : IntKind.i64.wrap (b0 + b2) = b0 + b2 := by rw [IntKind.wrap_i64]; omega
  have hw4 : IntKind.i64.wrap (b1 + b3) = b1 + b3 := by rw [IntKind.wrap_i64]; omega
  clear h2 h3 hr0 hy
  go_enter Tryd.func18, Tryd.ntmps18
  go_wp2
  go_quiet (fail)
  go_wp2
  go_quiet (fail)
  go_wp2
  go_ret3
  exact refPost_nil 0 4 (by repeat (first | exact Below.refl _ _ | apply pw_below_drewN | apply below_drew1))
set_option maxHeartbeats 4000000 in
set_option maxRecDepth 100000 in
theorem RGet_lo (A0 : Option Addr) (c0 : Nat) (l0 : List Int) (w : World) (hr0 : Kd.C (Kd.int .u8) w A0 l0.length l0) (h4 : 4 ≤ l0.length) (hy : Bytes l0) (m : Nat) (hn : l0.getD 0 0 + 256 * l0.getD 1 0 = (m : Int)) (h2 : l0.getD 2 0 = not8 (l0.getD 0 0)) (h3 : l0.getD 3 0 = not8 (l0.getD 1 0)) (hmay : (m : Int) < 1) :
    Calls Tryd.prog 18 #[.slice A0 l0.length c0] w (RefGetPost A0 l0 [] 0 4 w) := by
  have hm := Kd.C_max hr0
  have HR0 := Aside0.mk hr0
  obtain ⟨ad, e, x0, x1, x2, x3⟩ := four_cells hr0 h4
  cases e
  have y0 := hy.getD 0
  have y1 := hy.getD 1
  have y2 := hy.getD 2
  have y3 := hy.getD 3
  try rw [not8_eq _ y0.1 y0.2] at h2
  try rw [not8_eq _ y1.1 y1.2] at h3
  generalize l0.getD 0 0 = b0 at *
  generalize l0.getD 1 0 = b1 at *
  generalize l0.getD 2 0 = b2 at *
  generalize l0.getD 3 0 = b3 at *
  obtain ⟨y00, y01⟩ := y0
  obtain ⟨y10, y11⟩ := y1
  obtain ⟨y20, y21⟩ := y2
  obtain ⟨y30, y31⟩ := y3
  have d4 : decide ((l0.length : Int) < 4) = false := decide_eq_false (by omega)
  have i0 : (0 : Int) < (l0.length : Int) := by omega
  have i0n : 0 < l0.length := by omega
  have i0e : ¬ l0 = [] := fun h => by rw [h] at i0n; exact absurd i0n (by decide)
  have i1 : (1 : Int) < (l0.length : Int) := by omega
  have i2 : (2 : Int) < (l0.length : Int) := by omega
  have i3 : (3 : Int) < (l0.length : Int) := by omega
  have q2 : (b0 + b2 != 255) = false := bne_eq_false_iff_eq.mpr (by omega)
  have q3 : (b1 + b3 != 255) = false := bne_eq_false_iff_eq.mpr (by omega)
  have hw1 : IntKind.i64.wrap (256 * b1) = 256 * b1 := by rw [IntKind.wrap_i64]; omega
  have hw2 : IntKind.i64.wrap (b0 + 256 * b1) = b0 + 256 * b1 := by rw [IntKind.wrap_i64]; omega
  have hw3 : IntKind.i64.wrap (b0 + b2) = b0 + b2 := by rw [IntKind.wrap_i64]; omega
  have hw4 : IntKind.i64.wrap (b1 + b3) = b1 + b3 := by rw [IntKind.wrap_i64]; omega
  have q4 : decide ((m : Int) < 1) = true := decide_eq_true hmay
  clear h2 h3 hr0 hy hmay
  go_enter Tryd.func18, Tryd.ntmps18
  go_wp2
  go_quiet (fail)
  go_wp2
  go_quiet (fail)
  go_wp2
  go_ret3
  exact refPost_nil 0 4 (by repeat (first | exact Below.refl _ _ | apply pw_below_drewN | apply below_drew1))
set_option maxHeartbeats 4000000 in
set_option maxRecDepth 100000 in
theorem RGet_hi (A0 : Option Addr) (c0 : Nat) (l0 : List Int) (w : World) (hr0 : Kd.C (Kd.int .u8) w A0 l0.length l0) (h4 : 4 ≤ l0.length) (hy : Bytes l0) (m : Nat) (hn : l0.getD 0 0 + 256 * l0.getD 1 0 = (m : Int)) (h2 : l0.getD 2 0 = not8 (l0.getD 0 0)) (h3 : l0.getD 3 0 = not8 (l0.getD 1 0)) (hmay : 4096 < (m : Int)) :
    Calls Tryd.prog 18 #[.slice A0 l0.length c0] w (RefGetPost A0 l0 [] 0 4 w) := by
  have hm := Kd.C_max hr0
  have HR0 := Aside0.mk hr0
  obtain ⟨ad, e, x0, x1, x2, x3⟩ := four_cells hr0 h4
  cases e
  have y0 := hy.getD 0
  have y1 := hy.getD 1
  have y2 := hy.getD 2
  have y3 := hy.getD 3
  try rw [not8_eq _ y0.1 y0.2] at h2
  try rw [not8_eq _ y1.1 y1.2] at h3
  generalize l0.getD 0 0 = b0 at *
  generalize l0.getD 1 0 = b1 at *
  generalize l0.getD 2 0 = b2 at *
  generalize l0.getD 3 0 = b3 at *
  obtain ⟨y00, y01⟩ := y0
  obtain ⟨y10, y11⟩ := y1
  obtain ⟨y20, y21⟩ := y2
  obtain ⟨y30, y31⟩ := y3
  have d4 : decide ((l0.length : Int) < 4) = false := decide_eq_false (by omega)
  have i0 : (0 : Int) < (l0.length : Int) := by omega
  have i0n : 0 < l0.length := by omega
  have i0e : ¬ l0 = [] := fun h => by rw [h] at i0n; exact absurd i0n (by decide)
  have i1 : (1 : Int) < (l0.length : Int) := by omega
  have i2 : (2 : Int) < (l0.length : Int) := by omega
  have i3 : (3 : Int) < (l0.length : Int) := by omega
  have q2 : (b0 + b2 != 255) = false := bne_eq_false_iff_eq.mpr (by omega)
  have q3 : (b1 + b3 != 255) = false := bne_eq_false_iff_eq.mpr (by omega)
  have hw1 : IntKind.i64.wrap (256 * b1) = 256 * b1 := by rw [IntKind.wrap_i64]; omega
  have hw2 : IntKind.i64.wrap (b0 + 256 * b1) = b0 + 256 * b1 := by rw [IntKind.wrap_i64]; omega
  have hw3 : IntKind.i64.wrap (b0 + b2) = b0 + b2 := by rw [IntKind.wrap_i64]; omega
  have hw4 : IntKind.i64.wrap (b1 + b3) = b1 + b3 := by rw [IntKind.wrap_i64]; omega
  have q4 : decide ((m : Int) < 1) = false := decide_eq_false (by omega)
  have q5 : decide (4096 < (m : Int)) = true := decide_eq_true hmay
  clear h2 h3 hr0 hy hmay
  go_enter Tryd.func18, Tryd.ntmps18
  go_wp2
  go_quiet (fail)
  go_wp2
  go_quiet (fail)
  go_wp2
  go_ret3
  exact refPost_nil 0 4 (by repeat (first | exact Below.refl _ _ | apply pw_below_drewN | apply below_drew1))
set_option maxHeartbeats 4000000 in
set_option maxRecDepth 100000 in
theorem RGet_short2 (A0 : Option Addr) (c0 : Nat) (l0 : List Int) (w : World) (hr0 : Kd.C (Kd.int .u8) w A0 l0.length l0) (h4 : 4 ≤ l0.length) (hy : Bytes l0) (m : Nat) (hn : l0.getD 0 0 + 256 * l0.getD 1 0 = (m : Int)) (h2 : l0.getD 2 0 = not8 (l0.getD 0 0)) (h3 : l0.getD 3 0 = not8 (l0.getD 1 0)) (hmay : 1 ≤ (m : Int) ∧ (m : Int) ≤ 4096) (hs : l0.length < m + 8) :
    Calls Tryd.prog 18 #[.slice A0 l0.length c0] w (RefGetPost A0 l0 [] 0 3 w) := by
  have hm := Kd.C_max hr0
  have HR0 := Aside0.mk hr0
  obtain ⟨ad, e, x0, x1, x2, x3⟩ := four_cells hr0 h4
  cases e
  have y0 := hy.getD 0
  have y1 := hy.getD 1
  have y2 := hy.getD 2
  have y3 := hy.getD 3
  try rw [not8_eq _ y0.1 y0.2] at h2
  try rw [not8_eq _ y1.1 y1.2] at h3
  generalize l0.getD 0 0 = b0 at *
  generalize l0.getD 1 0 = b1 at *
  generalize l0.getD 2 0 = b2 at *
  generalize l0.getD 3 0 = b3 at *
  obtain ⟨y00, y01⟩ := y0
  obtain ⟨y10, y11⟩ := y1
  obtain ⟨y20, y21⟩ := y2
  obtain ⟨y30, y31⟩ := y3
  have d4 : decide ((l0.length : Int) < 4) = false := decide_eq_false (by omega)
  have i0 : (0 : Int) < (l0.length : Int) := by omega
  have i0n : 0 < l0.length := by omega
  have i0e : ¬ l0 = [] := fun h => by rw [h] at i0n; exact absurd i0n (by decide)
  have i1 : (1 : Int) < (l0.length : Int) := by omega
  have i2 : (2 : Int) < (l0.length : Int) := by omega
  have i3 : (3 : Int) < (l0.length : Int) := by omega
  have q2 : (b0 + b2 != 255) = false := bne_eq_false_iff_eq.mpr (by omega)
  have q3 : (b1 + b3 != 255) = false := bne_eq_false_iff_eq.mpr (by omega)
  have hw1 : IntKind.i64.wrap (256 * b1) = 256 * b1 := by rw [IntKind.wrap_i64]; omega
  have hw2 : IntKind.i64.wrap (b0 + 256 * b1) = b0 + 256 * b1 := by rw [IntKind.wrap_i64]; omega
  have hw3 : IntKind.i64.wrap (b0 + b2) = b0 + b2 := by rw [IntKind.wrap_i64]; omega
  have hw4 : IntKind.i64.wrap (b1 + b3) = b1 + b3 := by rw [IntKind.wrap_i64]; omega
  have q4 : decide ((m : Int) < 1) = false := decide_eq_false (by omega)
  have q5 : decide (4096 < (m : Int)) = false := decide_eq_false (by omega)
  have m1 : 1 ≤ m := by omega
  have m2 : m ≤ 4096 := by omega
  have d8 : decide ((l0.length : Int) < (m : Int) + 8) = true := decide_eq_true (by omega)
  clear h2 h3 hr0 hy hmay
  go_enter Tryd.func18, Tryd.ntmps18
  go_wp2
  go_quiet (fail)
  go_wp2
  go_quiet (fail)
  go_wp2
  go_ret3
  exact refPost_nil 0 3 (by repeat (first | exact Below.refl _ _ | apply pw_below_drewN | apply below_drew1))
end Go.Proofs.YtafajpjonmnjbaaDoor.Fr
