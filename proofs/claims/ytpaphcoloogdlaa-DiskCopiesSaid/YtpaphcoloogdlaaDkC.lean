/- Cut, Replace, Crash, Copy. -/
import Derived.Test.YtpaphcoloogdlaaDkB
import Derived.Deep.RegionHeld3
namespace Go.Proofs.Ytpaphcoloogdlaa.Dk
open Go.RowKit Go.Proofs.YtpaphcoloogdlaaW.PrintWords Go.Proofs.YtpaphcoloogdlaaW.PrintLast Go.Proofs.YtpaphcoloogdlaaW.PrintMore Go.Proofs.Ytpaphcoloogdlaa.Kit
set_option linter.unusedVariables false
set_option linter.unusedSimpArgs false
theorem gb_refl (w : World) (p : Nat) : w.grownBy w (some p) := World.grownBy.refl w _
theorem gb_set {w W : World} {p : Nat} (h : w.grownBy W (some p)) (j : Nat) (v : Value) : w.grownBy (W.setCell ⟨p, j, none⟩ v) (some p) := h.trans (grown_set W p j v)
theorem gb_drew {w W : World} {p : Nat} (h : w.grownBy W (some p)) : w.grownBy W.drew (some p) := h.trans (grown_of_below (below_drew1 (Below.refl _ _)) _)
theorem gb_drewN {w W : World} {p : Nat} (h : w.grownBy W (some p)) (n : Nat) : w.grownBy (W.drewN n) (some p) := h.trans (grown_of_below (pw_below_drewN (Below.refl _ _) n) _)
theorem gb_below {w W W1 : World} {p : Nat} (h : w.grownBy W (some p)) (hb : Below W.heap.size W W1) : w.grownBy W1 (some p) := h.trans (grown_of_below hb _)
theorem gb_belowB {w W W1 : World} {p B : Nat} (h : w.grownBy W (some p)) (hb : Below B W W1) (hB : w.heap.size ≤ B) : w.grownBy W1 (some p) :=
  ⟨hb.os.trans h.os, hb.tape.trans h.tape, hb.output.trans h.output, Nat.le_trans h.size hb.size, fun k hk hne => (hb.block k (by omega)).trans (h.block k hk hne)⟩
theorem not_p {w : World} {p : Nat} {A : Option Addr} {c : Nat} {b : List Int} {cs : Array Value} (h : AnyRow w A c b) (hp : w.heap[p]? = some (.cells cs 51 (0, 0))) (v : Value) : ∀ ad, A = some ad → (w.setCell ⟨p, 0, none⟩ v).heap[ad.block]? = w.heap[ad.block]? := fun ad e => by
  obtain ⟨cs', h5⟩ := h.2.2 ad e
  refine Below.heap_setCell _ _ _ _ fun e2 => ?_
  have e2' : ad.block = p := e2
  rw [e2', hp] at h5
  injection h5 with h5
  injection h5 with _ h6
  exact absurd h6 (by decide)
theorem cut_bad (p : Nat) (b : List Int) (s z : Nat) (n : Int) (w : World) (h : DiskAt w p b s z) (hn : n < 0 ∨ (b.length : Int) < n) :
    Calls Try.prog 24 #[.pointer (some ⟨p, 0, none⟩), .int .i64 n] w fun e w' => e = .returned (.int .i64 2) ∧ Drawn0 w w' := by
  obtain ⟨A, c', h⟩ := h
  have x0 := h.c0
  clear h
  by_cases h1 : n < 0
  · have d1 : decide (n < 0) = true := decide_eq_true h1
    go_enter Try.func24, Try.ntmps24
    go_wp2
    go_ret
    exact ⟨rfl, ⟨0, rfl⟩⟩
  · have d1 : decide (n < 0) = false := decide_eq_false h1
    have d2 : decide ((b.length : Int) < n) = true := decide_eq_true (by omega)
    go_enter Try.func24, Try.ntmps24
    go_wp2
    go_ret
    exact ⟨rfl, ⟨0, rfl⟩⟩
set_option maxHeartbeats 4000000 in
set_option maxRecDepth 100000 in
theorem cut_calls (p : Nat) (b : List Int) (s z : Nat) (n : Nat) (w : World) (h : DiskAt w p b s z) (hn : n ≤ b.length) :
    Calls Try.prog 24 #[.pointer (some ⟨p, 0, none⟩), .int .i64 (n : Int)] w fun e w' => e = .returned (.int .i64 0) ∧ DiskAt w' p (b.take n) (min s n) z ∧ w.grownBy w' (some p) := by
  obtain ⟨A, c', h⟩ := h
  have HK := Aside0.mk h
  obtain ⟨A', hsl, hC', hA'⟩ := cut_hm h.C h.le n hn
  have HC := Aside0.mk hC'
  have HA := Aside0.mk hA'
  have x0 := h.c0
  have x1 := h.c1
  have f0 := blk_frozen h.blk 0
  have f1 := blk_frozen h.blk 1
  have h0 := h
  clear h hC' hA'
  have d1 : decide ((n : Int) < 0) = false := decide_eq_false (by omega)
  have d2 : decide (b.length < n) = false := decide_eq_false (by omega)
  have d3 : decide ((b.length : Int) < (n : Int)) = false := decide_eq_false (by omega)
  have hss := h0.safe
  have hff := h0.fit
  clear h0
  go_enter Try.func24, Try.ntmps24
  go_wp2
  go_region
  all_goals
    go_wp2 <;>
    (go_ret
     have hlen : (b.take n).length = n := by simp; omega
     refine ⟨rfl, HK.out.turn (A' := A') (c' := n) (b' := b.take n) (s' := min s n) (by repeat (first | exact gb_refl _ _ | apply gb_set | apply gb_drew | apply gb_drewN)) ?_ (by omega) HC.out (fun ad e => ?_) (by omega) (by omega), by repeat (first | exact gb_refl _ _ | apply gb_set | apply gb_drew | apply gb_drewN)⟩
     · rw [hlen]
       first
         | (have e : ((min s n : Nat) : Int) = (n : Int) := by omega
            rw [e]; exact setD (setD HK.out.blk 0 _) 1 _)
         | (have e : ((min s n : Nat) : Int) = (s : Int) := by omega
            rw [e]; exact setD (setD HK.out.blk 0 _) 1 _)
     · obtain ⟨ad0, e0, e1⟩ := HA.out ad e
       rw [e1]
       exact HK.out.ty ad0 e0)
set_option maxHeartbeats 4000000 in
set_option maxRecDepth 100000 in
theorem replace_full (p : Nat) (b : List Int) (s z : Nat) (A1 : Option Addr) (n c : Nat) (w : World) (h : DiskAt w p b s z) (hn : z < n) (hm : n ≤ 9223372036854775807) :
    Calls Try.prog 25 #[.pointer (some ⟨p, 0, none⟩), .slice A1 n c] w fun e w' => e = .returned (.int .i64 7) ∧ Drawn0 w w' := by
  obtain ⟨A, c', h⟩ := h
  have x2 := h.c2
  clear h
  have d1 : decide (z < n) = true := decide_eq_true hn
  have d2 : decide ((z : Int) < (n : Int)) = true := decide_eq_true (by omega)
  go_enter Try.func25, Try.ntmps25
  go_wp2
  go_ret
  exact ⟨rfl, ⟨0, rfl⟩⟩
set_option maxHeartbeats 4000000 in
set_option maxRecDepth 100000 in
theorem replace_calls (p : Nat) (b : List Int) (s z : Nat) (A1 : Option Addr) (b1 : List Int) (c1 : Nat) (w : World) (h : DiskAt w p b s z) (hC1 : AnyRow w A1 c1 b1) (hn : b1.length ≤ z) :
    Calls Try.prog 25 #[.pointer (some ⟨p, 0, none⟩), .slice A1 b1.length c1] w fun e w' => e = .returned (.int .i64 0) ∧ DiskAt w' p b1 b1.length z ∧ w.grownBy w' (some p) := by
  obtain ⟨A, c', h⟩ := h
  have HK := Aside0.mk h
  have HC1 := Aside0.mk hC1
  have x0 := h.c0
  have x2 := h.c2
  have hz := h.most
  have hlt := h.lt
  have f0 := blk_frozen h.blk 0
  have f1 := blk_frozen h.blk 1
  clear h hC1
  have d1 : decide (z < b1.length) = false := decide_eq_false (by omega)
  have d2 : decide ((z : Int) < (b1.length : Int)) = false := decide_eq_false (by omega)
  go_enter Try.func25, Try.ntmps25
  go_wp2_with (first | ((with_reducible refine gate_dst (N := 19) rfl ?_); refine make_event rfl (N := 19) rfl 26 _ _ rfl .i64 .i64 b1.length b1.length rfl rfl (Nat.le_refl _) 5 (.int .u8 0) 1 Try.underlying26 info5 rfl (by omega) (by omega) ?_; intro g hg w1 hk1 hb1; have x0 := (HK.out.below hb1).c0; have f0 := blk_frozen (HK.out.below hb1).blk 0; have f1 := blk_frozen (HK.out.below hb1).blk 1; have HK1 := Aside0.mk hk1; have HB1 := Aside0.mk hb1; have HG := Aside0.mk hg; clear hk1 hb1 hg) | ((with_reducible refine gate_dst (N := 28) rfl ?_); refine copy_event (w0 := w1.setCell ⟨p, 0, none⟩ (.slice (some ⟨g, 0, none⟩) b1.length b1.length)) (B := g) rfl _ _ rfl g b1.length b1.length rfl A1 c1 b1 rfl ((Below.heap_setCell _ _ _ _ (show g ≠ p by have := HG.out; omega)).trans HK1.out) (C_same (HC1.out.below HB1.out).2.1 (not_p (HC1.out.below HB1.out) (HK.out.below HB1.out).blk _)) (Nat.le_refl _) (Below.refl _ _) (Nat.le_refl _) ?_; intro w2 hk2 hb2; have HP2 := Aside0.mk ((hb2.block p (by have := HG.out; omega)).trans (setD (HK.out.below HB1.out).blk 0 (.slice (some ⟨g, 0, none⟩) b1.length b1.length))); have y1 : w2.cell? ⟨p, 1, none⟩ = some (.int .i64 (s : Int)) := (blk_cell HP2.out 1).trans rfl; have z1 := blk_frozen HP2.out 1; have HB2 := Aside0.mk hb2; clear hb2))
  go_ret
  have hg0 : w.grownBy w2 (some p) := gb_belowB (gb_set (grown_of_below HB1.out _) 0 _) HB2.out (Nat.le_of_eq HG.out.symm)
  have hpg : p ≠ g := by have := HG.out; omega
  have hb := HP2.out
  have hk := hk2.out
  rw [List.take_length] at hk
  have hgf : w.grownBy (w2.setCell ⟨p, 1, none⟩ (.int .i64 (b1.length : Int))) (some p) := gb_set hg0 1 _
  refine ⟨rfl, ⟨some ⟨g, 0, none⟩, b1.length, setD hb 1 _, Nat.le_refl _, C_same (hk.reads (by omega)) (fun ad e => ?_), fun ad e => ?_, hn, hz, Nat.le_refl _⟩, hgf⟩
  · cases e
    exact Below.heap_setCell _ _ _ _ (fun e => hpg e.symm)
  · cases e
    exact ⟨_, (Below.heap_setCell _ _ _ _ (fun e => hpg e.symm)).trans hk⟩
end Go.Proofs.Ytpaphcoloogdlaa.Dk
