/- The payload that bytes begin with, as the reference tells it. -/
import Derived.Test.YtafajpjonmnjbaaDoorRGet
namespace Go.Proofs.YtafajpjonmnjbaaDoor.Fr
open Go.RowKit Go.Proofs.YtafajpjonmnjbaaDoorW.PrintWords Go.Proofs.YtafajpjonmnjbaaDoorW.PrintLast Go.Proofs.YtafajpjonmnjbaaDoorW.PrintMore Go.Proofs.YtafajpjonmnjbaaDoor.Kit Go.Proofs.YtafajpjonmnjbaaDoor.PFrameGets
set_option linter.unusedVariables false
set_option linter.unusedSimpArgs false
set_option maxHeartbeats 4000000 in
set_option maxRecDepth 100000 in
theorem RGet_main (A0 : Option Addr) (c0 : Nat) (l0 : List Int) (w : World) (hr0 : Kd.C (Kd.int .u8) w A0 l0.length l0) (h4 : 4 ≤ l0.length) (hy : Bytes l0) (m : Nat) (hn : l0.getD 0 0 + 256 * l0.getD 1 0 = (m : Int)) (h2 : l0.getD 2 0 = not8 (l0.getD 0 0)) (h3 : l0.getD 3 0 = not8 (l0.getD 1 0)) (hmay : 1 ≤ (m : Int) ∧ (m : Int) ≤ 4096) (hc0 : l0.length ≤ c0) (hs : m + 8 ≤ l0.length) (hF : frame ((l0.take (4 + m)).drop 4) = l0.take (m + 8)) :
    Calls Tryd.prog 18 #[.slice A0 l0.length c0] w (RefGetPost A0 l0 ((l0.take (4 + m)).drop 4) (m + 8) 0 w) := by
  have hm := Kd.C_max hr0
  have HR0 := Aside0.mk hr0
  obtain ⟨ad, e, x0, x1, x2, x3⟩ := four_cells hr0 h4
  cases e
  have y0 := hy.getD 0
  have y1 := hy.getD 1
  have y2 := hy.getD 2
  have y3 := hy.getD 3
  try rw [not8_eq _ y0.1 y0.2] at h2
  try rw [not8_eq _ y1.1 y1.2] at h3
  generalize l0.getD 0 0 = b0 at *
  generalize l0.getD 1 0 = b1 at *
  generalize l0.getD 2 0 = b2 at *
  generalize l0.getD 3 0 = b3 at *
  obtain ⟨y00, y01⟩ := y0
  obtain ⟨y10, y11⟩ := y1
  obtain ⟨y20, y21⟩ := y2
  obtain ⟨y30, y31⟩ := y3
  have d4 : decide ((l0.length : Int) < 4) = false := decide_eq_false (by omega)
  have i0 : (0 : Int) < (l0.length : Int) := by omega
  have i0n : 0 < l0.length := by omega
  have i0e : ¬ l0 = [] := fun h => by rw [h] at i0n; exact absurd i0n (by decide)
  have i1 : (1 : Int) < (l0.length : Int) := by omega
  have i2 : (2 : Int) < (l0.length : Int) := by omega
  have i3 : (3 : Int) < (l0.length : Int) := by omega
  have q2 : (b0 + b2 != 255) = false := bne_eq_false_iff_eq.mpr (by omega)
  have q3 : (b1 + b3 != 255) = false := bne_eq_false_iff_eq.mpr (by omega)
  have hw1 : IntKind.i64.wrap (256 * b1) = 256 * b1 := by rw [IntKind.wrap_i64]; omega
  have hw2 : IntKind.i64.wrap (b0 + 256 * b1) = b0 + 256 * b1 := by rw [IntKind.wrap_i64]; omega
  have hw3 : IntKind.i64.wrap (b0 + b2) = b0 + b2 := by rw [IntKind.wrap_i64]; omega
  have hw4 : IntKind.i64.wrap (b1 + b3) = b1 + b3 := by rw [IntKind.wrap_i64]; omega
  have q4 : decide ((m : Int) < 1) = false := decide_eq_false (by omega)
  have q5 : decide (4096 < (m : Int)) = false := decide_eq_false (by omega)
  have m1 : 1 ≤ m := by omega
  have m2 : m ≤ 4096 := by omega
  have d8 : decide ((l0.length : Int) < (m : Int) + 8) = false := decide_eq_false (by omega)
  obtain ⟨A7, hs7, hC7W⟩ := cut_lhW (A := some ad) hc0 4 (4 + m) 4 (4 + (m : Int)) (by omega) (by omega) (by omega) (by omega)
  have hyp : Bytes ((l0.take (4 + m)).drop 4) := fun x hx => hy x (List.mem_of_mem_take (List.mem_of_mem_drop hx))
  obtain ⟨pl, hpl⟩ : ∃ pl, pl = (l0.take (4 + m)).drop 4 := ⟨_, rfl⟩
  rw [← hpl] at hC7W hyp hF
  try rw [← hpl]
  have lpl : pl.length = m := by rw [hpl]; simp; omega
  have e5 : 4 + m - 4 = m := by omega
  rw [e5] at hs7 hC7W
  have hC7 := hC7W w hr0
  rw [← lpl] at hC7
  have hC7X : ∀ W, Kd.C (Kd.int .u8) W (some ad) l0.length l0 → Kd.C (Kd.int .u8) W A7 pl.length pl := fun W h => by have := hC7W W h; rw [lpl]; exact this
  have HC7X := Aside0.mk hC7X
  clear hC7W hC7X
  have HC7 := Aside0.mk hC7
  have HYP := Aside0.mk hyp
  have HLP := Aside0.mk lpl
  have cc : pl.length ≤ c0 - 4 := by omega
  have HCC := Aside0.mk cc
  obtain ⟨F, hFF⟩ : ∃ F, F = frame pl := ⟨_, rfl⟩
  rw [← hFF] at hF
  have lF : F.length = m + 8 := by rw [hFF]; simp [frame, hdr, sumBytes]; omega
  have HFF := Aside0.mk hFF
  have HLF := Aside0.mk lF
  have HFE := Aside0.mk hF
  have hfr : ∀ u, Below w.heap.size w u → Calls Tryd.prog 16 #[.slice A7 m (c0 - 4)] u fun e w' => ∃ v : Value, e = .returned v ∧ Own .u8 5 w' u.heap.size v F ∧ Below u.heap.size u w' := fun u hu => by
    have := ref_frame_calls A7 (c0 - 4) pl u (Kd.C_below HC7.out hu) HCC.out HYP.out (by rw [HLP.out]; omega) (by rw [HLP.out]; omega)
    rw [HLP.out, ← HFF.out] at this
    exact this
  have HFR := Aside0.mk hfr
  clear hC7 hyp cc lpl hfr hpl hFF lF hF
  clear h2 h3 hr0 hy hmay
  go_enter Tryd.func18, Tryd.ntmps18
  go_wp2
  go_quiet (fail)
  go_wp2
  go_quiet (fail)
  go_wp2_with (first | (go_at_call 16; (with_reducible refine (HFR.out _ ?hD).mono ?_); (case hD => repeat (first | exact Below.refl _ _ | apply pw_below_drewN | apply below_drew1)); rintro e w5 ⟨v5, rfl, ho5, hb5⟩; have HB5 := Aside0.mk (below_then (show Below w.heap.size w _ by repeat (first | exact Below.refl _ _ | apply pw_below_drewN | apply below_drew1)) (Below.size (show Below w.heap.size w _ by repeat (first | exact Below.refl _ _ | apply pw_below_drewN | apply below_drew1))) hb5); obtain ⟨A5, c5, ev5, hc5, hr5⟩ := ho5.reads; subst ev5; have HR5 := Aside0.mk hr5; have hlf := HLF.out; clear ho5 hb5 hc5 hr5))
  obtain ⟨ad5, e5, _⟩ := at_nat HR5.out 0 (by omega)
  cases e5
  go_loopw [7] (fun i wr => ∃ k : Nat, k ≤ m + 8 ∧ i = .int .i64 k ∧ Aside0 (Below w5.heap.size w5 wr)) (fun i _ => m + 8 - (intOf i).toNat)
  case atStart => exact ⟨0, by omega, rfl, ⟨Below.refl _ _⟩⟩
  case round =>
    obtain ⟨k, hk, rfl, HW⟩ := hrel
    by_cases hlt : k < m + 8
    · have hB5 := below_then HB5.out HB5.out.size HW.out
      obtain ⟨_, e6, xF⟩ := at_nat (Kd.C_below HR5.out HW.out) k (by omega)
      cases e6
      obtain ⟨_, e6, xL⟩ := at_nat (Kd.C_below HR0.out hB5) k (by omega)
      cases e6
      have HB6 := Aside0.mk hB5
      clear hB5
      have ek : F.getD k 0 = l0.getD k 0 := by
        rw [HFE.out, List.getD_eq_getElem?_getD, List.getD_eq_getElem?_getD, List.getElem?_take_of_lt (by omega)]
      rw [ek] at xF
      clear ek
      generalize l0.getD k 0 = q at xF xL
      have qk : (q != q) = false := bne_eq_false_iff_eq.mpr rfl
      have j1 : (k : Int) < (m : Int) + 8 := by omega
      have j2 : (k : Int) < (l0.length : Int) := by omega
      go_wp2
      go_quiet (fail)
      go_wp2
      go_roundw
      case rel => exact ⟨k + 1, by omega, by go_num, ⟨by repeat (first | exact HW.out | apply pw_below_drewN | apply below_drew1)⟩⟩
      case measure => simp [intOf]; omega
    · go_wp2
      go_ret3
      refine ⟨A7, c0 - 4, by rw [HLP.out]; simp, HCC.out, HC7X.out, below_then HB5.out HB5.out.size HW.out⟩
set_option maxHeartbeats 4000000 in
set_option maxRecDepth 100000 in
theorem RGet_sum (A0 : Option Addr) (c0 : Nat) (l0 : List Int) (w : World) (hr0 : Kd.C (Kd.int .u8) w A0 l0.length l0) (h4 : 4 ≤ l0.length) (hy : Bytes l0) (m : Nat) (hn : l0.getD 0 0 + 256 * l0.getD 1 0 = (m : Int)) (h2 : l0.getD 2 0 = not8 (l0.getD 0 0)) (h3 : l0.getD 3 0 = not8 (l0.getD 1 0)) (hmay : 1 ≤ (m : Int) ∧ (m : Int) ≤ 4096) (hc0 : l0.length ≤ c0) (hs : m + 8 ≤ l0.length) (hF : frame ((l0.take (4 + m)).drop 4) ≠ l0.take (m + 8)) :
    Calls Tryd.prog 18 #[.slice A0 l0.length c0] w (RefGetPost A0 l0 [] 0 6 w) := by
  have hm := Kd.C_max hr0
  have HR0 := Aside0.mk hr0
  obtain ⟨ad, e, x0, x1, x2, x3⟩ := four_cells hr0 h4
  cases e
  have y0 := hy.getD 0
  have y1 := hy.getD 1
  have y2 := hy.getD 2
  have y3 := hy.getD 3
  try rw [not8_eq _ y0.1 y0.2] at h2
  try rw [not8_eq _ y1.1 y1.2] at h3
  generalize l0.getD 0 0 = b0 at *
  generalize l0.getD 1 0 = b1 at *
  generalize l0.getD 2 0 = b2 at *
  generalize l0.getD 3 0 = b3 at *
  obtain ⟨y00, y01⟩ := y0
  obtain ⟨y10, y11⟩ := y1
  obtain ⟨y20, y21⟩ := y2
  obtain ⟨y30, y31⟩ := y3
  have d4 : decide ((l0.length : Int) < 4) = false := decide_eq_false (by omega)
  have i0 : (0 : Int) < (l0.length : Int) := by omega
  have i0n : 0 < l0.length := by omega
  have i0e : ¬ l0 = [] := fun h => by rw [h] at i0n; exact absurd i0n (by decide)
  have i1 : (1 : Int) < (l0.length : Int) := by omega
  have i2 : (2 : Int) < (l0.length : Int) := by omega
  have i3 : (3 : Int) < (l0.length : Int) := by omega
  have q2 : (b0 + b2 != 255) = false := bne_eq_false_iff_eq.mpr (by omega)
  have q3 : (b1 + b3 != 255) = false := bne_eq_false_iff_eq.mpr (by omega)
  have hw1 : IntKind.i64.wrap (256 * b1) = 256 * b1 := by rw [IntKind.wrap_i64]; omega
  have hw2 : IntKind.i64.wrap (b0 + 256 * b1) = b0 + 256 * b1 := by rw [IntKind.wrap_i64]; omega
  have hw3 : IntKind.i64.wrap (b0 + b2) = b0 + b2 := by rw [IntKind.wrap_i64]; omega
  have hw4 : IntKind.i64.wrap (b1 + b3) = b1 + b3 := by rw [IntKind.wrap_i64]; omega
  have q4 : decide ((m : Int) < 1) = false := decide_eq_false (by omega)
  have q5 : decide (4096 < (m : Int)) = false := decide_eq_false (by omega)
  have m1 : 1 ≤ m := by omega
  have m2 : m ≤ 4096 := by omega
  have d8 : decide ((l0.length : Int) < (m : Int) + 8) = false := decide_eq_false (by omega)
  obtain ⟨A7, hs7, hC7W⟩ := cut_lhW (A := some ad) hc0 4 (4 + m) 4 (4 + (m : Int)) (by omega) (by omega) (by omega) (by omega)
  have hyp : Bytes ((l0.take (4 + m)).drop 4) := fun x hx => hy x (List.mem_of_mem_take (List.mem_of_mem_drop hx))
  obtain ⟨pl, hpl⟩ : ∃ pl, pl = (l0.take (4 + m)).drop 4 := ⟨_, rfl⟩
  rw [← hpl] at hC7W hyp hF
  try rw [← hpl]
  have lpl : pl.length = m := by rw [hpl]; simp; omega
  have e5 : 4 + m - 4 = m := by omega
  rw [e5] at hs7 hC7W
  have hC7 := hC7W w hr0
  rw [← lpl] at hC7
  have hC7X : ∀ W, Kd.C (Kd.int .u8) W (some ad) l0.length l0 → Kd.C (Kd.int .u8) W A7 pl.length pl := fun W h => by have := hC7W W h; rw [lpl]; exact this
  have HC7X := Aside0.mk hC7X
  clear hC7W hC7X
  have HC7 := Aside0.mk hC7
  have HYP := Aside0.mk hyp
  have HLP := Aside0.mk lpl
  have cc : pl.length ≤ c0 - 4 := by omega
  have HCC := Aside0.mk cc
  obtain ⟨F, hFF⟩ : ∃ F, F = frame pl := ⟨_, rfl⟩
  rw [← hFF] at hF
  have lF : F.length = m + 8 := by rw [hFF]; simp [frame, hdr, sumBytes]; omega
  have HFF := Aside0.mk hFF
  have HLF := Aside0.mk lF
  have HFE := Aside0.mk hF
  have hfr : ∀ u, Below w.heap.size w u → Calls Tryd.prog 16 #[.slice A7 m (c0 - 4)] u fun e w' => ∃ v : Value, e = .returned v ∧ Own .u8 5 w' u.heap.size v F ∧ Below u.heap.size u w' := fun u hu => by
    have := ref_frame_calls A7 (c0 - 4) pl u (Kd.C_below HC7.out hu) HCC.out HYP.out (by rw [HLP.out]; omega) (by rw [HLP.out]; omega)
    rw [HLP.out, ← HFF.out] at this
    exact this
  have HFR := Aside0.mk hfr
  clear hC7 hyp cc lpl hfr hpl hFF lF hF
  clear h2 h3 hr0 hy hmay
  go_enter Tryd.func18, Tryd.ntmps18
  go_wp2
  go_quiet (fail)
  go_wp2
  go_quiet (fail)
  go_wp2_with (first | (go_at_call 16; (with_reducible refine (HFR.out _ ?hD).mono ?_); (case hD => repeat (first | exact Below.refl _ _ | apply pw_below_drewN | apply below_drew1)); rintro e w5 ⟨v5, rfl, ho5, hb5⟩; have HB5 := Aside0.mk (below_then (show Below w.heap.size w _ by repeat (first | exact Below.refl _ _ | apply pw_below_drewN | apply below_drew1)) (Below.size (show Below w.heap.size w _ by repeat (first | exact Below.refl _ _ | apply pw_below_drewN | apply below_drew1))) hb5); obtain ⟨A5, c5, ev5, hc5, hr5⟩ := ho5.reads; subst ev5; have HR5 := Aside0.mk hr5; have hlf := HLF.out; clear ho5 hb5 hc5 hr5))
  obtain ⟨ad5, e5, _⟩ := at_nat HR5.out 0 (by omega)
  cases e5
  go_loopw [7] (fun i wr => ∃ k : Nat, k ≤ m + 8 ∧ i = .int .i64 k ∧ Aside0 (Below w5.heap.size w5 wr) ∧ Aside0 (∀ j, j < k → F.getD j 0 = l0.getD j 0)) (fun i _ => m + 8 - (intOf i).toNat)
  case atStart => exact ⟨0, by omega, rfl, ⟨Below.refl _ _⟩, ⟨fun j h => absurd h (Nat.not_lt_zero j)⟩⟩
  case round =>
    obtain ⟨k, hk, rfl, HW, HP⟩ := hrel
    by_cases hlt : k < m + 8
    · have hB5 := below_then HB5.out HB5.out.size HW.out
      obtain ⟨_, e6, xF⟩ := at_nat (Kd.C_below HR5.out HW.out) k (by omega)
      cases e6
      obtain ⟨_, e6, xL⟩ := at_nat (Kd.C_below HR0.out hB5) k (by omega)
      cases e6
      have HB6 := Aside0.mk hB5
      clear hB5
      by_cases ek : F.getD k 0 = l0.getD k 0
      · have HEK := Aside0.mk ek
        rw [ek] at xF
        clear ek
        generalize hq : l0.getD k 0 = q at xF xL
        clear hq
        have qk : (q != q) = false := bne_eq_false_iff_eq.mpr rfl
        have j1 : (k : Int) < (m : Int) + 8 := by omega
        have j2 : (k : Int) < (l0.length : Int) := by omega
        go_wp2
        go_quiet (fail)
        go_wp2
        go_roundw
        case rel => exact ⟨k + 1, by omega, by go_num, ⟨by repeat (first | exact HW.out | apply pw_below_drewN | apply below_drew1)⟩, ⟨fun j hj => by
          rcases Nat.lt_succ_iff_lt_or_eq.1 hj with h | h
          · exact HP.out j h
          · rw [h]; exact HEK.out⟩⟩
        case measure => simp [intOf]; omega
      · generalize F.getD k 0 = f at ek xF
        generalize l0.getD k 0 = q at ek xL
        have qk : (f != q) = true := bne_iff_ne.mpr ek
        have j1 : (k : Int) < (m : Int) + 8 := by omega
        have j2 : (k : Int) < (l0.length : Int) := by omega
        clear ek
        go_wp2
        go_quiet (fail)
        go_wp2
        go_ret3
        exact refPost_nil 0 6 (below_then HB5.out HB5.out.size (by repeat (first | exact HW.out | apply pw_below_drewN | apply below_drew1)))
    · exfalso
      apply HFE.out
      have hke : k = m + 8 := by omega
      apply List.ext_getElem
      · rw [HLF.out]; simp; omega
      · intro j h1 h2
        have hj : j < m + 8 := by rw [HLF.out] at h1; exact h1
        have := HP.out j (by omega)
        have h3 : j < l0.length := by omega
        simpa [h1, h3] using this
end Go.Proofs.YtafajpjonmnjbaaDoor.Fr
