import Derived.Test.YtafajpjonmnjbaaDoorLPutsA
namespace Go.Proofs.YtafajpjonmnjbaaDoor.Fr
open Go.RowKit Go.Proofs.YtafajpjonmnjbaaDoorW.PrintWords Go.Proofs.YtafajpjonmnjbaaDoorW.PrintLast Go.Proofs.YtafajpjonmnjbaaDoorW.PrintMore Go.Proofs.YtafajpjonmnjbaaDoor.Kit Go.Proofs.YtafajpjonmnjbaaDoor.PFrameGets
set_option linter.unusedVariables false
set_option linter.unusedSimpArgs false
set_option maxHeartbeats 2000000 in
set_option maxRecDepth 100000 in
theorem puts_bad2_in (A0 A1 : Option Addr) (c0 c1 : Nat) (l0 l1 : List Int) (n : Int) (w : World) (hr0 : Kd.C (Kd.int .u8) w A0 l0.length l0) (hr1 : Kd.C (Kd.int .u8) w A1 l1.length l1) (hc0 : l0.length ≤ c0) (hc1 : l1.length ≤ c1) (hT : Steps w) (hb0 : Bytes l0) (hb1 : Bytes l1)
    (hl0 : l0.length ≤ 4500) (hl1 : l1.length ≤ 4500) (hp : 4096 < l1.length) (hn1 : decide (1 ≤ n) = true) (hn2 : decide (n ≤ 4096) = true) :
    Calls Tryd.prog 4 #[.slice A0 l0.length c0, .slice A1 l1.length c1, .int .i64 n] w (TruePost w) := by
  have HR0 := Aside0.mk hr0
  have HR1 := Aside0.mk hr1
  have HT := Aside0.mk hT
  have HY0 := Aside0.mk hb0
  have HY1 := Aside0.mk hb1
  clear hr0 hr1 hT hb0 hb1
  have d0 : decide (4500 < (l0.length : Int)) = false := decide_eq_false (by omega)
  have d1 : decide (4500 < (l1.length : Int)) = false := decide_eq_false (by omega)
  have n1 : 1 ≤ n := of_decide_eq_true hn1
  have n2 : n ≤ 4096 := of_decide_eq_true hn2
  go_enter Tryd.func4, Tryd.ntmps4
  go_wp2_with (first | (go_at_call 10; (with_reducible refine (own_calls A0 c0 l0 _ HR0.out (by omega)).mono ?_); rintro e w1 ⟨g1, rfl, hg1, hk1, hbel1⟩; have HK1 := Aside0.mk hk1; have HB1 := Aside0.mk hbel1; have HG1 := Aside0.mk hg1; clear hg1 hk1 hbel1) | (go_at_call 10; (with_reducible refine (own_calls A1 c1 l1 _ (Kd.C_below HR1.out HB1.out) (by omega)).mono ?_); rintro e w2 ⟨g2, rfl, hg2, hk2, hbel2⟩; have HK2 := Aside0.mk hk2; have HB2 := Aside0.mk (below_then HB1.out HB1.out.size hbel2); have HB12 := Aside0.mk hbel2; have HG2 := Aside0.mk hg2; clear hg2 hk2 hbel2) | (go_at_call 14; (with_reducible refine (Put_bad (some ⟨g1, 0, none⟩) (some ⟨g2, 0, none⟩) l0.length (l0.length + 16) l1.length (l1.length + 16) _ (by omega) (by omega)).mono ?_); rintro e w3 ⟨rfl, rfl⟩; have HB23 := Aside0.mk (Below.refl w2.heap.size w2); have HB3 := HB2))
  have HX := Aside0.mk (Kd.C_below (own_reads HK1.out (by omega)) (below_then HB12.out HB12.out.size HB23.out))
  have HYR := Aside0.mk (Kd.C_below (own_reads HK2.out (by omega)) HB23.out)
  have HR0' := Aside0.mk (Kd.C_below HR0.out HB3.out)
  have HR1' := Aside0.mk (Kd.C_below HR1.out HB3.out)
  have esz : sizeOfN n = n + 8 := if_pos ⟨n1, n2⟩
  have b1 : decide (l0 = l0) = true := decide_eq_true rfl
  have b2 : decide (l1 = l1) = true := decide_eq_true rfl
  have HZ := Aside0.mk (Kd.C_below (spare_reads HK1.out (by omega)) (below_then HB12.out HB12.out.size HB23.out))
  have hs1 := fun u => cut_all g1 l0.length u (by omega)
  have hs2 := fun u => cut_tail g1 l0.length u (by omega)
  have hmk := make16
  have hw16 : IntKind.i64.wrap ((l0.length : Int) + 16 - (l0.length : Int)) = 16 := by rw [IntKind.wrap_i64]; omega
  go_region_held3 (fun w' => True) (trivial) (first | (go_at_call 15; (with_reducible refine (size_calls n _).mono ?_); rintro e w4 ⟨rfl, ⟨m4, rfl⟩⟩; rw [esz]) | (go_at_call 13; (with_reducible refine (same_calls (some ⟨g1, 0, none⟩) (l0.length + 16) l0 A0 c0 l0 _ ?hA (by omega) ?hB hc0 (by omega)).mono ?_); (case hA => (repeat (first | (with_reducible refine Kd.C_alloc ?_ _) | (with_reducible refine Kd.C_drewN ?_ _) | (with_reducible refine Kd.C_drew ?_))); exact HX.out); (case hB => (repeat (first | (with_reducible refine Kd.C_alloc ?_ _) | (with_reducible refine Kd.C_drewN ?_ _) | (with_reducible refine Kd.C_drew ?_))); exact HR0'.out); rintro e w5 ⟨rfl, ⟨m5, rfl⟩⟩; rw [decide_eq_true (rfl : l0 = l0)]) | (go_at_call 13; (with_reducible refine (same_calls (some ⟨g2, 0, none⟩) (l1.length + 16) l1 A1 c1 l1 _ ?hA2 (by omega) ?hB2 hc1 (by omega)).mono ?_); (case hA2 => (repeat (first | (with_reducible refine Kd.C_alloc ?_ _) | (with_reducible refine Kd.C_drewN ?_ _) | (with_reducible refine Kd.C_drew ?_))); exact HYR.out); (case hB2 => (repeat (first | (with_reducible refine Kd.C_alloc ?_ _) | (with_reducible refine Kd.C_drewN ?_ _) | (with_reducible refine Kd.C_drew ?_))); exact HR1'.out); rintro e w6 ⟨rfl, ⟨m6, rfl⟩⟩; rw [decide_eq_true (rfl : l1 = l1)]) | (go_at_call 13; refine calls_of_args (args' := #[.slice (some ⟨g1, l0.length, none⟩) zero16.length 16, .slice _ zero16.length 16]) rfl ((same_calls (some ⟨g1, l0.length, none⟩) 16 zero16 _ 16 zero16 _ ?hA3 (by decide) ?hB3 (by decide) (by decide)).mono ?_); (case hA3 => (repeat (first | (with_reducible refine Kd.C_alloc ?_ _) | (with_reducible refine Kd.C_drewN ?_ _) | (with_reducible refine Kd.C_drew ?_))); exact HZ.out); (case hB3 => (repeat (first | (with_reducible refine Kd.C_drewN ?_ _) | (with_reducible refine Kd.C_drew ?_))); exact C_of_block (off := 0) (blk_new _ _) zero_cells (by decide)); rintro e w7 ⟨rfl, ⟨m7, rfl⟩⟩; rw [decide_eq_true (rfl : zero16 = zero16)]))
  have hp1 : decide ((l1.length : Int) < 1) = false := decide_eq_false (by omega)
  have hp2 : decide (4096 < (l1.length : Int)) = true := decide_eq_true (by omega)
  go_wp2_with fail
  have HBW0 : ∀ m, Below w2.heap.size w2 (((w2.alloc (.cells (List.replicate 16 (Value.int .u8 0)).toArray 5))).drewN m) := fun m => pw_below_drewN (below_alloc (Below.refl _ _) _) m
  generalize hW : World.drewN _ _ = W
  have HBW : Aside0 (Below w2.heap.size w2 W) := by
    subst hW
    refine ⟨?_⟩
    repeat (first | exact Below.refl _ _ | apply below_alloc | apply pw_below_drewN | apply below_drew1)
  clear hW HBW0
  go_wp2_with (go_at_call 9; (with_reducible refine (awake_calls _ (HT.out.below (below_then HB3.out HB3.out.size HBW.out))).mono ?_); rintro e w12 ⟨rfl, hb12⟩; have HB12' := Aside0.mk (below_then (below_then HB3.out HB3.out.size HBW.out) (below_then HB3.out HB3.out.size HBW.out).size hb12); clear hb12)
  go_ret
  exact ⟨rfl, HB12'.out⟩
set_option maxHeartbeats 2000000 in
set_option maxRecDepth 100000 in
theorem puts_bad2_lo (A0 A1 : Option Addr) (c0 c1 : Nat) (l0 l1 : List Int) (n : Int) (w : World) (hr0 : Kd.C (Kd.int .u8) w A0 l0.length l0) (hr1 : Kd.C (Kd.int .u8) w A1 l1.length l1) (hc0 : l0.length ≤ c0) (hc1 : l1.length ≤ c1) (hT : Steps w) (hb0 : Bytes l0) (hb1 : Bytes l1)
    (hl0 : l0.length ≤ 4500) (hl1 : l1.length ≤ 4500) (hp : 4096 < l1.length) (hn1 : decide (1 ≤ n) = false) :
    Calls Tryd.prog 4 #[.slice A0 l0.length c0, .slice A1 l1.length c1, .int .i64 n] w (TruePost w) := by
  have HR0 := Aside0.mk hr0
  have HR1 := Aside0.mk hr1
  have HT := Aside0.mk hT
  have HY0 := Aside0.mk hb0
  have HY1 := Aside0.mk hb1
  clear hr0 hr1 hT hb0 hb1
  have d0 : decide (4500 < (l0.length : Int)) = false := decide_eq_false (by omega)
  have d1 : decide (4500 < (l1.length : Int)) = false := decide_eq_false (by omega)
  have n1 : ¬ 1 ≤ n := of_decide_eq_false hn1
  go_enter Tryd.func4, Tryd.ntmps4
  go_wp2_with (first | (go_at_call 10; (with_reducible refine (own_calls A0 c0 l0 _ HR0.out (by omega)).mono ?_); rintro e w1 ⟨g1, rfl, hg1, hk1, hbel1⟩; have HK1 := Aside0.mk hk1; have HB1 := Aside0.mk hbel1; have HG1 := Aside0.mk hg1; clear hg1 hk1 hbel1) | (go_at_call 10; (with_reducible refine (own_calls A1 c1 l1 _ (Kd.C_below HR1.out HB1.out) (by omega)).mono ?_); rintro e w2 ⟨g2, rfl, hg2, hk2, hbel2⟩; have HK2 := Aside0.mk hk2; have HB2 := Aside0.mk (below_then HB1.out HB1.out.size hbel2); have HB12 := Aside0.mk hbel2; have HG2 := Aside0.mk hg2; clear hg2 hk2 hbel2) | (go_at_call 14; (with_reducible refine (Put_bad (some ⟨g1, 0, none⟩) (some ⟨g2, 0, none⟩) l0.length (l0.length + 16) l1.length (l1.length + 16) _ (by omega) (by omega)).mono ?_); rintro e w3 ⟨rfl, rfl⟩; have HB23 := Aside0.mk (Below.refl w2.heap.size w2); have HB3 := HB2))
  have HX := Aside0.mk (Kd.C_below (own_reads HK1.out (by omega)) (below_then HB12.out HB12.out.size HB23.out))
  have HYR := Aside0.mk (Kd.C_below (own_reads HK2.out (by omega)) HB23.out)
  have HR0' := Aside0.mk (Kd.C_below HR0.out HB3.out)
  have HR1' := Aside0.mk (Kd.C_below HR1.out HB3.out)
  have esz : sizeOfN n = 0 := if_neg (by omega)
  have b1 : decide (l0 = l0) = true := decide_eq_true rfl
  have b2 : decide (l1 = l1) = true := decide_eq_true rfl
  have HZ := Aside0.mk (Kd.C_below (spare_reads HK1.out (by omega)) (below_then HB12.out HB12.out.size HB23.out))
  have hs1 := fun u => cut_all g1 l0.length u (by omega)
  have hs2 := fun u => cut_tail g1 l0.length u (by omega)
  have hmk := make16
  have hw16 : IntKind.i64.wrap ((l0.length : Int) + 16 - (l0.length : Int)) = 16 := by rw [IntKind.wrap_i64]; omega
  go_region_held3 (fun w' => True) (trivial) (first | (go_at_call 15; (with_reducible refine (size_calls n _).mono ?_); rintro e w4 ⟨rfl, ⟨m4, rfl⟩⟩; rw [esz]) | (go_at_call 13; (with_reducible refine (same_calls (some ⟨g1, 0, none⟩) (l0.length + 16) l0 A0 c0 l0 _ ?hA (by omega) ?hB hc0 (by omega)).mono ?_); (case hA => (repeat (first | (with_reducible refine Kd.C_alloc ?_ _) | (with_reducible refine Kd.C_drewN ?_ _) | (with_reducible refine Kd.C_drew ?_))); exact HX.out); (case hB => (repeat (first | (with_reducible refine Kd.C_alloc ?_ _) | (with_reducible refine Kd.C_drewN ?_ _) | (with_reducible refine Kd.C_drew ?_))); exact HR0'.out); rintro e w5 ⟨rfl, ⟨m5, rfl⟩⟩; rw [decide_eq_true (rfl : l0 = l0)]) | (go_at_call 13; (with_reducible refine (same_calls (some ⟨g2, 0, none⟩) (l1.length + 16) l1 A1 c1 l1 _ ?hA2 (by omega) ?hB2 hc1 (by omega)).mono ?_); (case hA2 => (repeat (first | (with_reducible refine Kd.C_alloc ?_ _) | (with_reducible refine Kd.C_drewN ?_ _) | (with_reducible refine Kd.C_drew ?_))); exact HYR.out); (case hB2 => (repeat (first | (with_reducible refine Kd.C_alloc ?_ _) | (with_reducible refine Kd.C_drewN ?_ _) | (with_reducible refine Kd.C_drew ?_))); exact HR1'.out); rintro e w6 ⟨rfl, ⟨m6, rfl⟩⟩; rw [decide_eq_true (rfl : l1 = l1)]) | (go_at_call 13; refine calls_of_args (args' := #[.slice (some ⟨g1, l0.length, none⟩) zero16.length 16, .slice _ zero16.length 16]) rfl ((same_calls (some ⟨g1, l0.length, none⟩) 16 zero16 _ 16 zero16 _ ?hA3 (by decide) ?hB3 (by decide) (by decide)).mono ?_); (case hA3 => (repeat (first | (with_reducible refine Kd.C_alloc ?_ _) | (with_reducible refine Kd.C_drewN ?_ _) | (with_reducible refine Kd.C_drew ?_))); exact HZ.out); (case hB3 => (repeat (first | (with_reducible refine Kd.C_drewN ?_ _) | (with_reducible refine Kd.C_drew ?_))); exact C_of_block (off := 0) (blk_new _ _) zero_cells (by decide)); rintro e w7 ⟨rfl, ⟨m7, rfl⟩⟩; rw [decide_eq_true (rfl : zero16 = zero16)]))
  have hp1 : decide ((l1.length : Int) < 1) = false := decide_eq_false (by omega)
  have hp2 : decide (4096 < (l1.length : Int)) = true := decide_eq_true (by omega)
  go_wp2_with fail
  have HBW0 : ∀ m, Below w2.heap.size w2 (((w2.alloc (.cells (List.replicate 16 (Value.int .u8 0)).toArray 5))).drewN m) := fun m => pw_below_drewN (below_alloc (Below.refl _ _) _) m
  generalize hW : World.drewN _ _ = W
  have HBW : Aside0 (Below w2.heap.size w2 W) := by
    subst hW
    refine ⟨?_⟩
    repeat (first | exact Below.refl _ _ | apply below_alloc | apply pw_below_drewN | apply below_drew1)
  clear hW HBW0
  go_wp2_with (go_at_call 9; (with_reducible refine (awake_calls _ (HT.out.below (below_then HB3.out HB3.out.size HBW.out))).mono ?_); rintro e w12 ⟨rfl, hb12⟩; have HB12' := Aside0.mk (below_then (below_then HB3.out HB3.out.size HBW.out) (below_then HB3.out HB3.out.size HBW.out).size hb12); clear hb12)
  go_ret
  exact ⟨rfl, HB12'.out⟩
set_option maxHeartbeats 2000000 in
set_option maxRecDepth 100000 in
theorem puts_bad2_hi (A0 A1 : Option Addr) (c0 c1 : Nat) (l0 l1 : List Int) (n : Int) (w : World) (hr0 : Kd.C (Kd.int .u8) w A0 l0.length l0) (hr1 : Kd.C (Kd.int .u8) w A1 l1.length l1) (hc0 : l0.length ≤ c0) (hc1 : l1.length ≤ c1) (hT : Steps w) (hb0 : Bytes l0) (hb1 : Bytes l1)
    (hl0 : l0.length ≤ 4500) (hl1 : l1.length ≤ 4500) (hp : 4096 < l1.length) (hn1 : decide (1 ≤ n) = true) (hn2 : decide (n ≤ 4096) = false) :
    Calls Tryd.prog 4 #[.slice A0 l0.length c0, .slice A1 l1.length c1, .int .i64 n] w (TruePost w) := by
  have HR0 := Aside0.mk hr0
  have HR1 := Aside0.mk hr1
  have HT := Aside0.mk hT
  have HY0 := Aside0.mk hb0
  have HY1 := Aside0.mk hb1
  clear hr0 hr1 hT hb0 hb1
  have d0 : decide (4500 < (l0.length : Int)) = false := decide_eq_false (by omega)
  have d1 : decide (4500 < (l1.length : Int)) = false := decide_eq_false (by omega)
  have n1 : 1 ≤ n := of_decide_eq_true hn1
  have n2 : ¬ n ≤ 4096 := of_decide_eq_false hn2
  go_enter Tryd.func4, Tryd.ntmps4
  go_wp2_with (first | (go_at_call 10; (with_reducible refine (own_calls A0 c0 l0 _ HR0.out (by omega)).mono ?_); rintro e w1 ⟨g1, rfl, hg1, hk1, hbel1⟩; have HK1 := Aside0.mk hk1; have HB1 := Aside0.mk hbel1; have HG1 := Aside0.mk hg1; clear hg1 hk1 hbel1) | (go_at_call 10; (with_reducible refine (own_calls A1 c1 l1 _ (Kd.C_below HR1.out HB1.out) (by omega)).mono ?_); rintro e w2 ⟨g2, rfl, hg2, hk2, hbel2⟩; have HK2 := Aside0.mk hk2; have HB2 := Aside0.mk (below_then HB1.out HB1.out.size hbel2); have HB12 := Aside0.mk hbel2; have HG2 := Aside0.mk hg2; clear hg2 hk2 hbel2) | (go_at_call 14; (with_reducible refine (Put_bad (some ⟨g1, 0, none⟩) (some ⟨g2, 0, none⟩) l0.length (l0.length + 16) l1.length (l1.length + 16) _ (by omega) (by omega)).mono ?_); rintro e w3 ⟨rfl, rfl⟩; have HB23 := Aside0.mk (Below.refl w2.heap.size w2); have HB3 := HB2))
  have HX := Aside0.mk (Kd.C_below (own_reads HK1.out (by omega)) (below_then HB12.out HB12.out.size HB23.out))
  have HYR := Aside0.mk (Kd.C_below (own_reads HK2.out (by omega)) HB23.out)
  have HR0' := Aside0.mk (Kd.C_below HR0.out HB3.out)
  have HR1' := Aside0.mk (Kd.C_below HR1.out HB3.out)
  have esz : sizeOfN n = 0 := if_neg (by omega)
  have b1 : decide (l0 = l0) = true := decide_eq_true rfl
  have b2 : decide (l1 = l1) = true := decide_eq_true rfl
  have HZ := Aside0.mk (Kd.C_below (spare_reads HK1.out (by omega)) (below_then HB12.out HB12.out.size HB23.out))
  have hs1 := fun u => cut_all g1 l0.length u (by omega)
  have hs2 := fun u => cut_tail g1 l0.length u (by omega)
  have hmk := make16
  have hw16 : IntKind.i64.wrap ((l0.length : Int) + 16 - (l0.length : Int)) = 16 := by rw [IntKind.wrap_i64]; omega
  go_region_held3 (fun w' => True) (trivial) (first | (go_at_call 15; (with_reducible refine (size_calls n _).mono ?_); rintro e w4 ⟨rfl, ⟨m4, rfl⟩⟩; rw [esz]) | (go_at_call 13; (with_reducible refine (same_calls (some ⟨g1, 0, none⟩) (l0.length + 16) l0 A0 c0 l0 _ ?hA (by omega) ?hB hc0 (by omega)).mono ?_); (case hA => (repeat (first | (with_reducible refine Kd.C_alloc ?_ _) | (with_reducible refine Kd.C_drewN ?_ _) | (with_reducible refine Kd.C_drew ?_))); exact HX.out); (case hB => (repeat (first | (with_reducible refine Kd.C_alloc ?_ _) | (with_reducible refine Kd.C_drewN ?_ _) | (with_reducible refine Kd.C_drew ?_))); exact HR0'.out); rintro e w5 ⟨rfl, ⟨m5, rfl⟩⟩; rw [decide_eq_true (rfl : l0 = l0)]) | (go_at_call 13; (with_reducible refine (same_calls (some ⟨g2, 0, none⟩) (l1.length + 16) l1 A1 c1 l1 _ ?hA2 (by omega) ?hB2 hc1 (by omega)).mono ?_); (case hA2 => (repeat (first | (with_reducible refine Kd.C_alloc ?_ _) | (with_reducible refine Kd.C_drewN ?_ _) | (with_reducible refine Kd.C_drew ?_))); exact HYR.out); (case hB2 => (repeat (first | (with_reducible refine Kd.C_alloc ?_ _) | (with_reducible refine Kd.C_drewN ?_ _) | (with_reducible refine Kd.C_drew ?_))); exact HR1'.out); rintro e w6 ⟨rfl, ⟨m6, rfl⟩⟩; rw [decide_eq_true (rfl : l1 = l1)]) | (go_at_call 13; refine calls_of_args (args' := #[.slice (some ⟨g1, l0.length, none⟩) zero16.length 16, .slice _ zero16.length 16]) rfl ((same_calls (some ⟨g1, l0.length, none⟩) 16 zero16 _ 16 zero16 _ ?hA3 (by decide) ?hB3 (by decide) (by decide)).mono ?_); (case hA3 => (repeat (first | (with_reducible refine Kd.C_alloc ?_ _) | (with_reducible refine Kd.C_drewN ?_ _) | (with_reducible refine Kd.C_drew ?_))); exact HZ.out); (case hB3 => (repeat (first | (with_reducible refine Kd.C_drewN ?_ _) | (with_reducible refine Kd.C_drew ?_))); exact C_of_block (off := 0) (blk_new _ _) zero_cells (by decide)); rintro e w7 ⟨rfl, ⟨m7, rfl⟩⟩; rw [decide_eq_true (rfl : zero16 = zero16)]))
  have hp1 : decide ((l1.length : Int) < 1) = false := decide_eq_false (by omega)
  have hp2 : decide (4096 < (l1.length : Int)) = true := decide_eq_true (by omega)
  go_wp2_with fail
  have HBW0 : ∀ m, Below w2.heap.size w2 (((w2.alloc (.cells (List.replicate 16 (Value.int .u8 0)).toArray 5))).drewN m) := fun m => pw_below_drewN (below_alloc (Below.refl _ _) _) m
  generalize hW : World.drewN _ _ = W
  have HBW : Aside0 (Below w2.heap.size w2 W) := by
    subst hW
    refine ⟨?_⟩
    repeat (first | exact Below.refl _ _ | apply below_alloc | apply pw_below_drewN | apply below_drew1)
  clear hW HBW0
  go_wp2_with (go_at_call 9; (with_reducible refine (awake_calls _ (HT.out.below (below_then HB3.out HB3.out.size HBW.out))).mono ?_); rintro e w12 ⟨rfl, hb12⟩; have HB12' := Aside0.mk (below_then (below_then HB3.out HB3.out.size HBW.out) (below_then HB3.out HB3.out.size HBW.out).size hb12); clear hb12)
  go_ret
  exact ⟨rfl, HB12'.out⟩
end Go.Proofs.YtafajpjonmnjbaaDoor.Fr
