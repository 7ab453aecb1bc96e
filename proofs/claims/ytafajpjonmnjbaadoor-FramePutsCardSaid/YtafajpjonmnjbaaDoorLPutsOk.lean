import Derived.Test.YtafajpjonmnjbaaDoorLPutsA
namespace Go.Proofs.YtafajpjonmnjbaaDoor.Fr
open Go.RowKit Go.Proofs.YtafajpjonmnjbaaDoorW.PrintWords Go.Proofs.YtafajpjonmnjbaaDoorW.PrintLast Go.Proofs.YtafajpjonmnjbaaDoorW.PrintMore Go.Proofs.YtafajpjonmnjbaaDoor.Kit Go.Proofs.YtafajpjonmnjbaaDoor.PFrameGets
set_option linter.unusedVariables false
set_option linter.unusedSimpArgs false
set_option maxHeartbeats 2000000 in
set_option maxRecDepth 100000 in
theorem puts_ok_in (A0 A1 : Option Addr) (c0 c1 : Nat) (l0 l1 : List Int) (n : Int) (w : World) (hr0 : Kd.C (Kd.int .u8) w A0 l0.length l0) (hr1 : Kd.C (Kd.int .u8) w A1 l1.length l1) (hc0 : l0.length ≤ c0) (hc1 : l1.length ≤ c1) (hT : Steps w) (hb0 : Bytes l0) (hb1 : Bytes l1)
    (hl0 : l0.length ≤ 4500) (hl1 : l1.length ≤ 4500) (hp : 1 ≤ l1.length ∧ l1.length ≤ 4096) (hn1 : decide (1 ≤ n) = true) (hn2 : decide (n ≤ 4096) = true) :
    Calls Tryd.prog 4 #[.slice A0 l0.length c0, .slice A1 l1.length c1, .int .i64 n] w (TruePost w) := by
  have HR0 := Aside0.mk hr0
  have HR1 := Aside0.mk hr1
  have HT := Aside0.mk hT
  have HY0 := Aside0.mk hb0
  have HY1 := Aside0.mk hb1
  clear hr0 hr1 hT hb0 hb1
  have d0 : decide (4500 < (l0.length : Int)) = false := decide_eq_false (by omega)
  have d1 : decide (4500 < (l1.length : Int)) = false := decide_eq_false (by omega)
  have n1 : 1 ≤ n := of_decide_eq_true hn1
  have n2 : n ≤ 4096 := of_decide_eq_true hn2
  obtain ⟨fr, hfr⟩ : ∃ fr, fr = frame l1 := ⟨_, rfl⟩
  obtain ⟨F, hF⟩ : ∃ F, F = l0 ++ fr := ⟨_, rfl⟩
  have flen : fr.length ≤ 5000 := by rw [hfr]; simp [frame, hdr, sumBytes]; omega
  have Flen : F.length ≤ 10000 := by rw [hF]; simp; omega
  have HFr := Aside0.mk hfr
  have HF := Aside0.mk hF
  clear hfr hF
  go_enter Tryd.func4, Tryd.ntmps4
  go_wp2_with (first | (go_at_call 10; (with_reducible refine (own_calls A0 c0 l0 _ HR0.out (by omega)).mono ?_); rintro e w1 ⟨g1, rfl, hg1, hk1, hbel1⟩; have HK1 := Aside0.mk hk1; have HB1 := Aside0.mk hbel1; have HG1 := Aside0.mk hg1; clear hg1 hk1 hbel1) | (go_at_call 10; (with_reducible refine (own_calls A1 c1 l1 _ (Kd.C_below HR1.out HB1.out) (by omega)).mono ?_); rintro e w2 ⟨g2, rfl, hg2, hk2, hbel2⟩; have HK2 := Aside0.mk hk2; have HB2 := Aside0.mk (below_then HB1.out HB1.out.size hbel2); have HB12 := Aside0.mk hbel2; have HG2 := Aside0.mk hg2; clear hg2 hk2 hbel2) | (go_at_call 14; (with_reducible refine (Put_ok (some ⟨g1, 0, none⟩) (some ⟨g2, 0, none⟩) (l0.length + 16) (l1.length + 16) l0 l1 _ (Kd.C_below (own_reads HK1.out (by omega)) HB12.out) (own_reads HK2.out (by omega)) (HT.out.below HB2.out) hp (by omega)).mono ?_); rintro e w3 ⟨v3, rfl, ho3, hb3⟩; rw [← HFr.out, ← HF.out] at ho3; have HO3 := Aside0.mk ho3; have HB23 := Aside0.mk hb3; have HB3 := Aside0.mk (below_then HB2.out HB2.out.size hb3); clear ho3 hb3))
  have HX := Aside0.mk (Kd.C_below (own_reads HK1.out (by omega)) (below_then HB12.out HB12.out.size HB23.out))
  have HYR := Aside0.mk (Kd.C_below (own_reads HK2.out (by omega)) HB23.out)
  have HR0' := Aside0.mk (Kd.C_below HR0.out HB3.out)
  have HR1' := Aside0.mk (Kd.C_below HR1.out HB3.out)
  have esz : sizeOfN n = n + 8 := if_pos ⟨n1, n2⟩
  have b1 : decide (l0 = l0) = true := decide_eq_true rfl
  have b2 : decide (l1 = l1) = true := decide_eq_true rfl
  have HZ := Aside0.mk (Kd.C_below (spare_reads HK1.out (by omega)) (below_then HB12.out HB12.out.size HB23.out))
  have hs1 := fun u => cut_all g1 l0.length u (by omega)
  have hs2 := fun u => cut_tail g1 l0.length u (by omega)
  have hmk := make16
  have hw16 : IntKind.i64.wrap ((l0.length : Int) + 16 - (l0.length : Int)) = 16 := by rw [IntKind.wrap_i64]; omega
  obtain ⟨A3, c3, ev3, hc3, hr3⟩ := HO3.out.reads
  subst ev3
  have HR3 := Aside0.mk hr3
  have HC3 := Aside0.mk hc3
  clear hr3 hc3
  go_region_held3 (fun w' => True) (trivial) (first | (go_at_call 15; (with_reducible refine (size_calls n _).mono ?_); rintro e w4 ⟨rfl, ⟨m4, rfl⟩⟩; rw [esz]) | (go_at_call 13; (with_reducible refine (same_calls (some ⟨g1, 0, none⟩) (l0.length + 16) l0 A0 c0 l0 _ ?hA (by omega) ?hB hc0 (by omega)).mono ?_); (case hA => (repeat (first | (with_reducible refine Kd.C_alloc ?_ _) | (with_reducible refine Kd.C_drewN ?_ _) | (with_reducible refine Kd.C_drew ?_))); exact HX.out); (case hB => (repeat (first | (with_reducible refine Kd.C_alloc ?_ _) | (with_reducible refine Kd.C_drewN ?_ _) | (with_reducible refine Kd.C_drew ?_))); exact HR0'.out); rintro e w5 ⟨rfl, ⟨m5, rfl⟩⟩; rw [decide_eq_true (rfl : l0 = l0)]) | (go_at_call 13; (with_reducible refine (same_calls (some ⟨g2, 0, none⟩) (l1.length + 16) l1 A1 c1 l1 _ ?hA2 (by omega) ?hB2 hc1 (by omega)).mono ?_); (case hA2 => (repeat (first | (with_reducible refine Kd.C_alloc ?_ _) | (with_reducible refine Kd.C_drewN ?_ _) | (with_reducible refine Kd.C_drew ?_))); exact HYR.out); (case hB2 => (repeat (first | (with_reducible refine Kd.C_alloc ?_ _) | (with_reducible refine Kd.C_drewN ?_ _) | (with_reducible refine Kd.C_drew ?_))); exact HR1'.out); rintro e w6 ⟨rfl, ⟨m6, rfl⟩⟩; rw [decide_eq_true (rfl : l1 = l1)]) | (go_at_call 13; refine calls_of_args (args' := #[.slice (some ⟨g1, l0.length, none⟩) zero16.length 16, .slice _ zero16.length 16]) rfl ((same_calls (some ⟨g1, l0.length, none⟩) 16 zero16 _ 16 zero16 _ ?hA3 (by decide) ?hB3 (by decide) (by decide)).mono ?_); (case hA3 => (repeat (first | (with_reducible refine Kd.C_alloc ?_ _) | (with_reducible refine Kd.C_drewN ?_ _) | (with_reducible refine Kd.C_drew ?_))); exact HZ.out); (case hB3 => (repeat (first | (with_reducible refine Kd.C_drewN ?_ _) | (with_reducible refine Kd.C_drew ?_))); exact C_of_block (off := 0) (blk_new _ _) zero_cells (by decide)); rintro e w7 ⟨rfl, ⟨m7, rfl⟩⟩; rw [decide_eq_true (rfl : zero16 = zero16)]))
  have hp1 : decide ((l1.length : Int) < 1) = false := decide_eq_false (by omega)
  have hp2 : decide (4096 < (l1.length : Int)) = false := decide_eq_false (by omega)
  go_wp2_with fail
  have HBW0 : ∀ m, Below w3.heap.size w3 (((w3.alloc (.cells (List.replicate 16 (Value.int .u8 0)).toArray 5))).drewN m) := fun m => pw_below_drewN (below_alloc (Below.refl _ _) _) m
  generalize hW : World.drewN _ _ = W
  have HBW : Aside0 (Below w3.heap.size w3 W) := by
    subst hW
    refine ⟨?_⟩
    repeat (first | exact Below.refl _ _ | apply below_alloc | apply pw_below_drewN | apply below_drew1)
  clear hW HBW0
  go_wp2_with (first | (go_at_call 10; (with_reducible refine (own_calls A0 c0 l0 _ (Kd.C_below HR0'.out HBW.out) (by omega)).mono ?_); rintro e w8 ⟨g8, rfl, hg8, hk8, hbel8⟩; have HK8 := Aside0.mk hk8; have HB8 := Aside0.mk hbel8; have HG8 := Aside0.mk hg8; clear hg8 hk8 hbel8) | (go_at_call 16; (with_reducible refine (ref_frame_calls A1 c1 l1 _ (Kd.C_below (Kd.C_below HR1'.out HBW.out) HB8.out) hc1 HY1.out hp.1 hp.2).mono ?_); rintro e w9 ⟨v9, rfl, ho9, hb9⟩; rw [← HFr.out] at ho9; obtain ⟨A9, c9, ev9, hc9, hr9⟩ := ho9.reads; subst ev9; have HR9 := Aside0.mk hr9; have HO9 := Aside0.mk (own_of_block (base := W.heap.size) (cap := l0.length + 16) (blk_below HK8.out hb9) HG8.out rfl (by simp) (by unfold maxLen; omega)); have HB9 := Aside0.mk (below_then HB8.out HB8.out.size hb9); clear ho9 hb9 hc9 hr9) | ((with_reducible refine gate_dst (N := 98) rfl ?_); refine gate_guard (by rfl) ?_; refine appN_event (w0 := W) W.heap.size rfl (N := 98) rfl .u8 _ _ 22 5 (.int .u8 0) 1 rfl Tryd.underlying22 info5 rfl (by omega) (.slice (some ⟨g8, 0, none⟩) l0.length (l0.length + 16)) l0 fr A9 fr.length c9 rfl rfl HO9.out HR9.out HB9.out HB9.out.size ?hl ?_; (case hl => omega); intro v10 w10 ho10 hb10 hg10; rw [← HF.out] at ho10; obtain ⟨A10, c10, ev10, hc10, hr10⟩ := ho10.reads; subst ev10; have HR10 := Aside0.mk hr10; have HB10 := Aside0.mk hb10; have HC10 := Aside0.mk hc10; clear ho10 hb10 hc10 hr10 hg10) | (go_at_call 13; (with_reducible refine (same_calls A3 c3 F A10 c10 F _ (Kd.C_below (Kd.C_below HR3.out HBW.out) HB10.out) HC3.out HR10.out HC10.out (by omega)).mono ?_); rintro e w11 ⟨rfl, ⟨m11, rfl⟩⟩; rw [decide_eq_true (rfl : F = F)]) | (go_at_call 9; (with_reducible refine (awake_calls _ (HT.out.below (below_then (below_then HB3.out HB3.out.size HBW.out) (below_then HB3.out HB3.out.size HBW.out).size (pw_below_drewN HB10.out _)))).mono ?_); rintro e w12 ⟨rfl, hb12⟩; have HB12' := Aside0.mk (below_then (below_then (below_then HB3.out HB3.out.size HBW.out) (below_then HB3.out HB3.out.size HBW.out).size (pw_below_drewN HB10.out _)) (below_then (below_then HB3.out HB3.out.size HBW.out) (below_then HB3.out HB3.out.size HBW.out).size (pw_below_drewN HB10.out _)).size hb12); clear hb12))
  go_ret
  exact ⟨rfl, HB12'.out⟩
set_option maxHeartbeats 2000000 in
set_option maxRecDepth 100000 in
theorem puts_ok_lo (A0 A1 : Option Addr) (c0 c1 : Nat) (l0 l1 : List Int) (n : Int) (w : World) (hr0 : Kd.C (Kd.int .u8) w A0 l0.length l0) (hr1 : Kd.C (Kd.int .u8) w A1 l1.length l1) (hc0 : l0.length ≤ c0) (hc1 : l1.length ≤ c1) (hT : Steps w) (hb0 : Bytes l0) (hb1 : Bytes l1)
    (hl0 : l0.length ≤ 4500) (hl1 : l1.length ≤ 4500) (hp : 1 ≤ l1.length ∧ l1.length ≤ 4096) (hn1 : decide (1 ≤ n) = false) :
    Calls Tryd.prog 4 #[.slice A0 l0.length c0, .slice A1 l1.length c1, .int .i64 n] w (TruePost w) := by
  have HR0 := Aside0.mk hr0
  have HR1 := Aside0.mk hr1
  have HT := Aside0.mk hT
  have HY0 := Aside0.mk hb0
  have HY1 := Aside0.mk hb1
  clear hr0 hr1 hT hb0 hb1
  have d0 : decide (4500 < (l0.length : Int)) = false := decide_eq_false (by omega)
  have d1 : decide (4500 < (l1.length : Int)) = false := decide_eq_false (by omega)
  have n1 : ¬ 1 ≤ n := of_decide_eq_false hn1
  obtain ⟨fr, hfr⟩ : ∃ fr, fr = frame l1 := ⟨_, rfl⟩
  obtain ⟨F, hF⟩ : ∃ F, F = l0 ++ fr := ⟨_, rfl⟩
  have flen : fr.length ≤ 5000 := by rw [hfr]; simp [frame, hdr, sumBytes]; omega
  have Flen : F.length ≤ 10000 := by rw [hF]; simp; omega
  have HFr := Aside0.mk hfr
  have HF := Aside0.mk hF
  clear hfr hF
  go_enter Tryd.func4, Tryd.ntmps4
  go_wp2_with (first | (go_at_call 10; (with_reducible refine (own_calls A0 c0 l0 _ HR0.out (by omega)).mono ?_); rintro e w1 ⟨g1, rfl, hg1, hk1, hbel1⟩; have HK1 := Aside0.mk hk1; have HB1 := Aside0.mk hbel1; have HG1 := Aside0.mk hg1; clear hg1 hk1 hbel1) | (go_at_call 10; (with_reducible refine (own_calls A1 c1 l1 _ (Kd.C_below HR1.out HB1.out) (by omega)).mono ?_); rintro e w2 ⟨g2, rfl, hg2, hk2, hbel2⟩; have HK2 := Aside0.mk hk2; have HB2 := Aside0.mk (below_then HB1.out HB1.out.size hbel2); have HB12 := Aside0.mk hbel2; have HG2 := Aside0.mk hg2; clear hg2 hk2 hbel2) | (go_at_call 14; (with_reducible refine (Put_ok (some ⟨g1, 0, none⟩) (some ⟨g2, 0, none⟩) (l0.length + 16) (l1.length + 16) l0 l1 _ (Kd.C_below (own_reads HK1.out (by omega)) HB12.out) (own_reads HK2.out (by omega)) (HT.out.below HB2.out) hp (by omega)).mono ?_); rintro e w3 ⟨v3, rfl, ho3, hb3⟩; rw [← HFr.out, ← HF.out] at ho3; have HO3 := Aside0.mk ho3; have HB23 := Aside0.mk hb3; have HB3 := Aside0.mk (below_then HB2.out HB2.out.size hb3); clear ho3 hb3))
  have HX := Aside0.mk (Kd.C_below (own_reads HK1.out (by omega)) (below_then HB12.out HB12.out.size HB23.out))
  have HYR := Aside0.mk (Kd.C_below (own_reads HK2.out (by omega)) HB23.out)
  have HR0' := Aside0.mk (Kd.C_below HR0.out HB3.out)
  have HR1' := Aside0.mk (Kd.C_below HR1.out HB3.out)
  have esz : sizeOfN n = 0 := if_neg (by omega)
  have b1 : decide (l0 = l0) = true := decide_eq_true rfl
  have b2 : decide (l1 = l1) = true := decide_eq_true rfl
  have HZ := Aside0.mk (Kd.C_below (spare_reads HK1.out (by omega)) (below_then HB12.out HB12.out.size HB23.out))
  have hs1 := fun u => cut_all g1 l0.length u (by omega)
  have hs2 := fun u => cut_tail g1 l0.length u (by omega)
  have hmk := make16
  have hw16 : IntKind.i64.wrap ((l0.length : Int) + 16 - (l0.length : Int)) = 16 := by rw [IntKind.wrap_i64]; omega
  obtain ⟨A3, c3, ev3, hc3, hr3⟩ := HO3.out.reads
  subst ev3
  have HR3 := Aside0.mk hr3
  have HC3 := Aside0.mk hc3
  clear hr3 hc3
  go_region_held3 (fun w' => True) (trivial) (first | (go_at_call 15; (with_reducible refine (size_calls n _).mono ?_); rintro e w4 ⟨rfl, ⟨m4, rfl⟩⟩; rw [esz]) | (go_at_call 13; (with_reducible refine (same_calls (some ⟨g1, 0, none⟩) (l0.length + 16) l0 A0 c0 l0 _ ?hA (by omega) ?hB hc0 (by omega)).mono ?_); (case hA => (repeat (first | (with_reducible refine Kd.C_alloc ?_ _) | (with_reducible refine Kd.C_drewN ?_ _) | (with_reducible refine Kd.C_drew ?_))); exact HX.out); (case hB => (repeat (first | (with_reducible refine Kd.C_alloc ?_ _) | (with_reducible refine Kd.C_drewN ?_ _) | (with_reducible refine Kd.C_drew ?_))); exact HR0'.out); rintro e w5 ⟨rfl, ⟨m5, rfl⟩⟩; rw [decide_eq_true (rfl : l0 = l0)]) | (go_at_call 13; (with_reducible refine (same_calls (some ⟨g2, 0, none⟩) (l1.length + 16) l1 A1 c1 l1 _ ?hA2 (by omega) ?hB2 hc1 (by omega)).mono ?_); (case hA2 => (repeat (first | (with_reducible refine Kd.C_alloc ?_ _) | (with_reducible refine Kd.C_drewN ?_ _) | (with_reducible refine Kd.C_drew ?_))); exact HYR.out); (case hB2 => (repeat (first | (with_reducible refine Kd.C_alloc ?_ _) | (with_reducible refine Kd.C_drewN ?_ _) | (with_reducible refine Kd.C_drew ?_))); exact HR1'.out); rintro e w6 ⟨rfl, ⟨m6, rfl⟩⟩; rw [decide_eq_true (rfl : l1 = l1)]) | (go_at_call 13; refine calls_of_args (args' := #[.slice (some ⟨g1, l0.length, none⟩) zero16.length 16, .slice _ zero16.length 16]) rfl ((same_calls (some ⟨g1, l0.length, none⟩) 16 zero16 _ 16 zero16 _ ?hA3 (by decide) ?hB3 (by decide) (by decide)).mono ?_); (case hA3 => (repeat (first | (with_reducible refine Kd.C_alloc ?_ _) | (with_reducible refine Kd.C_drewN ?_ _) | (with_reducible refine Kd.C_drew ?_))); exact HZ.out); (case hB3 => (repeat (first | (with_reducible refine Kd.C_drewN ?_ _) | (with_reducible refine Kd.C_drew ?_))); exact C_of_block (off := 0) (blk_new _ _) zero_cells (by decide)); rintro e w7 ⟨rfl, ⟨m7, rfl⟩⟩; rw [decide_eq_true (rfl : zero16 = zero16)]))
  have hp1 : decide ((l1.length : Int) < 1) = false := decide_eq_false (by omega)
  have hp2 : decide (4096 < (l1.length : Int)) = false := decide_eq_false (by omega)
  go_wp2_with fail
  have HBW0 : ∀ m, Below w3.heap.size w3 (((w3.alloc (.cells (List.replicate 16 (Value.int .u8 0)).toArray 5))).drewN m) := fun m => pw_below_drewN (below_alloc (Below.refl _ _) _) m
  generalize hW : World.drewN _ _ = W
  have HBW : Aside0 (Below w3.heap.size w3 W) := by
    subst hW
    refine ⟨?_⟩
    repeat (first | exact Below.refl _ _ | apply below_alloc | apply pw_below_drewN | apply below_drew1)
  clear hW HBW0
  go_wp2_with (first | (go_at_call 10; (with_reducible refine (own_calls A0 c0 l0 _ (Kd.C_below HR0'.out HBW.out) (by omega)).mono ?_); rintro e w8 ⟨g8, rfl, hg8, hk8, hbel8⟩; have HK8 := Aside0.mk hk8; have HB8 := Aside0.mk hbel8; have HG8 := Aside0.mk hg8; clear hg8 hk8 hbel8) | (go_at_call 16; (with_reducible refine (ref_frame_calls A1 c1 l1 _ (Kd.C_below (Kd.C_below HR1'.out HBW.out) HB8.out) hc1 HY1.out hp.1 hp.2).mono ?_); rintro e w9 ⟨v9, rfl, ho9, hb9⟩; rw [← HFr.out] at ho9; obtain ⟨A9, c9, ev9, hc9, hr9⟩ := ho9.reads; subst ev9; have HR9 := Aside0.mk hr9; have HO9 := Aside0.mk (own_of_block (base := W.heap.size) (cap := l0.length + 16) (blk_below HK8.out hb9) HG8.out rfl (by simp) (by unfold maxLen; omega)); have HB9 := Aside0.mk (below_then HB8.out HB8.out.size hb9); clear ho9 hb9 hc9 hr9) | ((with_reducible refine gate_dst (N := 98) rfl ?_); refine gate_guard (by rfl) ?_; refine appN_event (w0 := W) W.heap.size rfl (N := 98) rfl .u8 _ _ 22 5 (.int .u8 0) 1 rfl Tryd.underlying22 info5 rfl (by omega) (.slice (some ⟨g8, 0, none⟩) l0.length (l0.length + 16)) l0 fr A9 fr.length c9 rfl rfl HO9.out HR9.out HB9.out HB9.out.size ?hl ?_; (case hl => omega); intro v10 w10 ho10 hb10 hg10; rw [← HF.out] at ho10; obtain ⟨A10, c10, ev10, hc10, hr10⟩ := ho10.reads; subst ev10; have HR10 := Aside0.mk hr10; have HB10 := Aside0.mk hb10; have HC10 := Aside0.mk hc10; clear ho10 hb10 hc10 hr10 hg10) | (go_at_call 13; (with_reducible refine (same_calls A3 c3 F A10 c10 F _ (Kd.C_below (Kd.C_below HR3.out HBW.out) HB10.out) HC3.out HR10.out HC10.out (by omega)).mono ?_); rintro e w11 ⟨rfl, ⟨m11, rfl⟩⟩; rw [decide_eq_true (rfl : F = F)]) | (go_at_call 9; (with_reducible refine (awake_calls _ (HT.out.below (below_then (below_then HB3.out HB3.out.size HBW.out) (below_then HB3.out HB3.out.size HBW.out).size (pw_below_drewN HB10.out _)))).mono ?_); rintro e w12 ⟨rfl, hb12⟩; have HB12' := Aside0.mk (below_then (below_then (below_then HB3.out HB3.out.size HBW.out) (below_then HB3.out HB3.out.size HBW.out).size (pw_below_drewN HB10.out _)) (below_then (below_then HB3.out HB3.out.size HBW.out) (below_then HB3.out HB3.out.size HBW.out).size (pw_below_drewN HB10.out _)).size hb12); clear hb12))
  go_ret
  exact ⟨rfl, HB12'.out⟩
set_option maxHeartbeats 2000000 in
set_option maxRecDepth 100000 in
theorem puts_ok_hi (A0 A1 : Option Addr) (c0 c1 : Nat) (l0 l1 : List Int) (n : Int) (w : World) (hr0 : Kd.C (Kd.int .u8) w A0 l0.length l0) (hr1 : Kd.C (Kd.int .u8) w A1 l1.length l1) (hc0 : l0.length ≤ c0) (hc1 : l1.length ≤ c1) (hT : Steps w) (hb0 : Bytes l0) (hb1 : Bytes l1)
    (hl0 : l0.length ≤ 4500) (hl1 : l1.length ≤ 4500) (hp : 1 ≤ l1.length ∧ l1.length ≤ 4096) (hn1 : decide (1 ≤ n) = true) (hn2 : decide (n ≤ 4096) = false) :
    Calls Tryd.prog 4 #[.slice A0 l0.length c0, .slice A1 l1.length c1, .int .i64 n] w (TruePost w) := by
  have HR0 := Aside0.mk hr0
  have HR1 := Aside0.mk hr1
  have HT := Aside0.mk hT
  have HY0 := Aside0.mk hb0
  have HY1 := Aside0.mk hb1
  clear hr0 hr1 hT hb0 hb1
  have d0 : decide (4500 < (l0.length : Int)) = false := decide_eq_false (by omega)
  have d1 : decide (4500 < (l1.length : Int)) = false := decide_eq_false (by omega)
  have n1 : 1 ≤ n := of_decide_eq_true hn1
  have n2 : ¬ n ≤ 4096 := of_decide_eq_false hn2
  obtain ⟨fr, hfr⟩ : ∃ fr, fr = frame l1 := ⟨_, rfl⟩
  obtain ⟨F, hF⟩ : ∃ F, F = l0 ++ fr := ⟨_, rfl⟩
  have flen : fr.length ≤ 5000 := by rw [hfr]; simp [frame, hdr, sumBytes]; omega
  have Flen : F.length ≤ 10000 := by rw [hF]; simp; omega
  have HFr := Aside0.mk hfr
  have HF := Aside0.mk hF
  clear hfr hF
  go_enter Tryd.func4, Tryd.ntmps4
  go_wp2_with (first | (go_at_call 10; (with_reducible refine (own_calls A0 c0 l0 _ HR0.out (by omega)).mono ?_); rintro e w1 ⟨g1, rfl, hg1, hk1, hbel1⟩; have HK1 := Aside0.mk hk1; have HB1 := Aside0.mk hbel1; have HG1 := Aside0.mk hg1; clear hg1 hk1 hbel1) | (go_at_call 10; (with_reducible refine (own_calls A1 c1 l1 _ (Kd.C_below HR1.out HB1.out) (by omega)).mono ?_); rintro e w2 ⟨g2, rfl, hg2, hk2, hbel2⟩; have HK2 := Aside0.mk hk2; have HB2 := Aside0.mk (below_then HB1.out HB1.out.size hbel2); have HB12 := Aside0.mk hbel2; have HG2 := Aside0.mk hg2; clear hg2 hk2 hbel2) | (go_at_call 14; (with_reducible refine (Put_ok (some ⟨g1, 0, none⟩) (some ⟨g2, 0, none⟩) (l0.length + 16) (l1.length + 16) l0 l1 _ (Kd.C_below (own_reads HK1.out (by omega)) HB12.out) (own_reads HK2.out (by omega)) (HT.out.below HB2.out) hp (by omega)).mono ?_); rintro e w3 ⟨v3, rfl, ho3, hb3⟩; rw [← HFr.out, ← HF.out] at ho3; have HO3 := Aside0.mk ho3; have HB23 := Aside0.mk hb3; have HB3 := Aside0.mk (below_then HB2.out HB2.out.size hb3); clear ho3 hb3))
  have HX := Aside0.mk (Kd.C_below (own_reads HK1.out (by omega)) (below_then HB12.out HB12.out.size HB23.out))
  have HYR := Aside0.mk (Kd.C_below (own_reads HK2.out (by omega)) HB23.out)
  have HR0' := Aside0.mk (Kd.C_below HR0.out HB3.out)
  have HR1' := Aside0.mk (Kd.C_below HR1.out HB3.out)
  have esz : sizeOfN n = 0 := if_neg (by omega)
  have b1 : decide (l0 = l0) = true := decide_eq_true rfl
  have b2 : decide (l1 = l1) = true := decide_eq_true rfl
  have HZ := Aside0.mk (Kd.C_below (spare_reads HK1.out (by omega)) (below_then HB12.out HB12.out.size HB23.out))
  have hs1 := fun u => cut_all g1 l0.length u (by omega)
  have hs2 := fun u => cut_tail g1 l0.length u (by omega)
  have hmk := make16
  have hw16 : IntKind.i64.wrap ((l0.length : Int) + 16 - (l0.length : Int)) = 16 := by rw [IntKind.wrap_i64]; omega
  obtain ⟨A3, c3, ev3, hc3, hr3⟩ := HO3.out.reads
  subst ev3
  have HR3 := Aside0.mk hr3
  have HC3 := Aside0.mk hc3
  clear hr3 hc3
  go_region_held3 (fun w' => True) (trivial) (first | (go_at_call 15; (with_reducible refine (size_calls n _).mono ?_); rintro e w4 ⟨rfl, ⟨m4, rfl⟩⟩; rw [esz]) | (go_at_call 13; (with_reducible refine (same_calls (some ⟨g1, 0, none⟩) (l0.length + 16) l0 A0 c0 l0 _ ?hA (by omega) ?hB hc0 (by omega)).mono ?_); (case hA => (repeat (first | (with_reducible refine Kd.C_alloc ?_ _) | (with_reducible refine Kd.C_drewN ?_ _) | (with_reducible refine Kd.C_drew ?_))); exact HX.out); (case hB => (repeat (first | (with_reducible refine Kd.C_alloc ?_ _) | (with_reducible refine Kd.C_drewN ?_ _) | (with_reducible refine Kd.C_drew ?_))); exact HR0'.out); rintro e w5 ⟨rfl, ⟨m5, rfl⟩⟩; rw [decide_eq_true (rfl : l0 = l0)]) | (go_at_call 13; (with_reducible refine (same_calls (some ⟨g2, 0, none⟩) (l1.length + 16) l1 A1 c1 l1 _ ?hA2 (by omega) ?hB2 hc1 (by omega)).mono ?_); (case hA2 => (repeat (first | (with_reducible refine Kd.C_alloc ?_ _) | (with_reducible refine Kd.C_drewN ?_ _) | (with_reducible refine Kd.C_drew ?_))); exact HYR.out); (case hB2 => (repeat (first | (with_reducible refine Kd.C_alloc ?_ _) | (with_reducible refine Kd.C_drewN ?_ _) | (with_reducible refine Kd.C_drew ?_))); exact HR1'.out); rintro e w6 ⟨rfl, ⟨m6, rfl⟩⟩; rw [decide_eq_true (rfl : l1 = l1)]) | (go_at_call 13; refine calls_of_args (args' := #[.slice (some ⟨g1, l0.length, none⟩) zero16.length 16, .slice _ zero16.length 16]) rfl ((same_calls (some ⟨g1, l0.length, none⟩) 16 zero16 _ 16 zero16 _ ?hA3 (by decide) ?hB3 (by decide) (by decide)).mono ?_); (case hA3 => (repeat (first | (with_reducible refine Kd.C_alloc ?_ _) | (with_reducible refine Kd.C_drewN ?_ _) | (with_reducible refine Kd.C_drew ?_))); exact HZ.out); (case hB3 => (repeat (first | (with_reducible refine Kd.C_drewN ?_ _) | (with_reducible refine Kd.C_drew ?_))); exact C_of_block (off := 0) (blk_new _ _) zero_cells (by decide)); rintro e w7 ⟨rfl, ⟨m7, rfl⟩⟩; rw [decide_eq_true (rfl : zero16 = zero16)]))
  have hp1 : decide ((l1.length : Int) < 1) = false := decide_eq_false (by omega)
  have hp2 : decide (4096 < (l1.length : Int)) = false := decide_eq_false (by omega)
  go_wp2_with fail
  have HBW0 : ∀ m, Below w3.heap.size w3 (((w3.alloc (.cells (List.replicate 16 (Value.int .u8 0)).toArray 5))).drewN m) := fun m => pw_below_drewN (below_alloc (Below.refl _ _) _) m
  generalize hW : World.drewN _ _ = W
  have HBW : Aside0 (Below w3.heap.size w3 W) := by
    subst hW
    refine ⟨?_⟩
    repeat (first | exact Below.refl _ _ | apply below_alloc | apply pw_below_drewN | apply below_drew1)
  clear hW HBW0
  go_wp2_with (first | (go_at_call 10; (with_reducible refine (own_calls A0 c0 l0 _ (Kd.C_below HR0'.out HBW.out) (by omega)).mono ?_); rintro e w8 ⟨g8, rfl, hg8, hk8, hbel8⟩; have HK8 := Aside0.mk hk8; have HB8 := Aside0.mk hbel8; have HG8 := Aside0.mk hg8; clear hg8 hk8 hbel8) | (go_at_call 16; (with_reducible refine (ref_frame_calls A1 c1 l1 _ (Kd.C_below (Kd.C_below HR1'.out HBW.out) HB8.out) hc1 HY1.out hp.1 hp.2).mono ?_); rintro e w9 ⟨v9, rfl, ho9, hb9⟩; rw [← HFr.out] at ho9; obtain ⟨A9, c9, ev9, hc9, hr9⟩ := ho9.reads; subst ev9; have HR9 := Aside0.mk hr9; have HO9 := Aside0.mk (own_of_block (base := W.heap.size) (cap := l0.length + 16) (blk_below HK8.out hb9) HG8.out rfl (by simp) (by unfold maxLen; omega)); have HB9 := Aside0.mk (below_then HB8.out HB8.out.size hb9); clear ho9 hb9 hc9 hr9) | ((with_reducible refine gate_dst (N := 98) rfl ?_); refine gate_guard (by rfl) ?_; refine appN_event (w0 := W) W.heap.size rfl (N := 98) rfl .u8 _ _ 22 5 (.int .u8 0) 1 rfl Tryd.underlying22 info5 rfl (by omega) (.slice (some ⟨g8, 0, none⟩) l0.length (l0.length + 16)) l0 fr A9 fr.length c9 rfl rfl HO9.out HR9.out HB9.out HB9.out.size ?hl ?_; (case hl => omega); intro v10 w10 ho10 hb10 hg10; rw [← HF.out] at ho10; obtain ⟨A10, c10, ev10, hc10, hr10⟩ := ho10.reads; subst ev10; have HR10 := Aside0.mk hr10; have HB10 := Aside0.mk hb10; have HC10 := Aside0.mk hc10; clear ho10 hb10 hc10 hr10 hg10) | (go_at_call 13; (with_reducible refine (same_calls A3 c3 F A10 c10 F _ (Kd.C_below (Kd.C_below HR3.out HBW.out) HB10.out) HC3.out HR10.out HC10.out (by omega)).mono ?_); rintro e w11 ⟨rfl, ⟨m11, rfl⟩⟩; rw [decide_eq_true (rfl : F = F)]) | (go_at_call 9; (with_reducible refine (awake_calls _ (HT.out.below (below_then (below_then HB3.out HB3.out.size HBW.out) (below_then HB3.out HB3.out.size HBW.out).size (pw_below_drewN HB10.out _)))).mono ?_); rintro e w12 ⟨rfl, hb12⟩; have HB12' := Aside0.mk (below_then (below_then (below_then HB3.out HB3.out.size HBW.out) (below_then HB3.out HB3.out.size HBW.out).size (pw_below_drewN HB10.out _)) (below_then (below_then HB3.out HB3.out.size HBW.out) (below_then HB3.out HB3.out.size HBW.out).size (pw_below_drewN HB10.out _)).size hb12); clear hb12))
  go_ret
  exact ⟨rfl, HB12'.out⟩
end Go.Proofs.YtafajpjonmnjbaaDoor.Fr
