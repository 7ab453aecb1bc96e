/- Crash, Copy. -/
import Derived.Test.YtpaphcoloogdlaaDkC
namespace Go.Proofs.Ytpaphcoloogdlaa.Dk
open Go.RowKit Go.Proofs.YtpaphcoloogdlaaW.PrintWords Go.Proofs.YtpaphcoloogdlaaW.PrintLast Go.Proofs.YtpaphcoloogdlaaW.PrintMore Go.Proofs.Ytpaphcoloogdlaa.Kit
set_option linter.unusedVariables false
set_option linter.unusedSimpArgs false
theorem ob_cell {w : World} {g : Nat} {b : List Int} (h : OwnBytes w g b) (u : Nat) (hu : u < b.length) : w.cell? ⟨g, u, none⟩ = some (.int .u8 (b.getD u 0)) := by
  rw [blk_cell h]
  simp [nums, hu]
theorem ob_set {w : World} {g : Nat} {b : List Int} (h : OwnBytes w g b) (u : Nat) (v : Int) : OwnBytes (w.setCell ⟨g, u, none⟩ (.int .u8 v)) g (b.set u v) := by
  have := setD h u (.int .u8 v)
  unfold OwnBytes
  rw [this]
  simp [nums, List.map_set]
theorem ne_of_lt2 {p a b g : Nat} (h : p < a) (h1 : a ≤ b) (h2 : g = b) : ¬ p = g := by omega
/-- How many bytes behind the safe ones are kept. -/
def keptN (b : List Int) (s : Nat) (k : Int) : Nat := (if (b.length : Int) - (s : Int) < (if k < 0 then 0 else k) then (b.length : Int) - (s : Int) else (if k < 0 then 0 else k)).toNat
/-- What a crash leaves. -/
def crashB (b : List Int) (s : Nat) (k t y : Int) : List Int :=
  if 0 ≤ t ∧ t < (keptN b s k : Int) then (b.take (s + keptN b s k)).set (s + t.toNat) (Go.bits .xor .u8 ((b.take (s + keptN b s k)).getD (s + t.toNat) 0) y) else b.take (s + keptN b s k)
set_option maxHeartbeats 4000000 in
set_option maxRecDepth 100000 in
theorem crash_calls (p : Nat) (b : List Int) (s z : Nat) (k t y : Int) (w : World) (h : DiskAt w p b s z) (hy : 0 ≤ y ∧ y < 256) :
    Calls Try.prog 21 #[.pointer (some ⟨p, 0, none⟩), .int .i64 k, .int .i64 t, .int .u8 y] w fun e w' => e = .returned (.tuple #[]) ∧ DiskAt w' p (crashB b s k t y) (crashB b s k t y).length z ∧ w.grownBy w' (some p) := by
  obtain ⟨A, c', h⟩ := h
  have HK := Aside0.mk h
  have x0 := h.c0
  have x1 := h.c1
  have hf := h.fit
  have hz := h.most
  have hs := h.safe
  have hlt := h.lt
  clear h
  go_enter Try.func21, Try.ntmps21
  go_wp2
  go_region
  generalize hX : (if (b.length : Int) - (s : Int) < (if k < 0 then 0 else k) then (b.length : Int) - (s : Int) else (if k < 0 then 0 else k)) = X
  have hX0 : 0 ≤ X ∧ X ≤ (b.length : Int) - (s : Int) := by
    subst hX
    split <;> split <;> omega
  obtain ⟨q, rfl⟩ := Int.eq_ofNat_of_zero_le hX0.1
  have hq : s + q ≤ b.length := by omega
  have hqk : keptN b s k = q := by unfold keptN; rw [hX]; simp
  have HQK := Aside0.mk hqk
  clear hqk
  clear hX hX0
  generalize (if k < 0 then (0 : Int) else k) = Y at *
  generalize hW : World.drew _ = W
  have HBW : Aside0 (Below w.heap.size w W) := by
    subst hW
    exact ⟨below_drew1 (Below.refl _ _)⟩
  have HDW := Aside0.mk (HK.out.below HBW.out)
  have x0 := HDW.out.c0
  have x1 := HDW.out.c1
  clear hW
  obtain ⟨r, hr⟩ : ∃ r : Nat, r = s + q := ⟨_, rfl⟩
  have hmk : ((s : Int) + (q : Int)) = (r : Int) := by omega
  have hrb : r ≤ b.length := by omega
  have HRR := Aside0.mk hr
  clear hr
  by_cases ht0 : t < 0
  · have d1 : decide (0 ≤ t) = false := decide_eq_false (by omega)
    go_wp2_with (first | ((with_reducible refine gate_dst (N := 30) rfl ?_); refine make_event rfl (N := 30) rfl 26 _ _ rfl .i64 .i64 r r rfl rfl (Nat.le_refl _) 5 (.int .u8 0) 1 Try.underlying26 info5 rfl (by omega) (by omega) ?_; intro g hg w1 hk1 hb1; have HDV := Aside0.mk (HDW.out.below hb1); have x0 := HDV.out.c0; have x1 := HDV.out.c1; have HK1 := Aside0.mk hk1; have HB1 := Aside0.mk hb1; have HG := Aside0.mk hg; clear hk1 hb1 hg) | ((with_reducible refine gate_dst (N := 36) rfl ?_); refine copy_event rfl _ _ rfl g r r rfl A c' b rfl HK1.out HDV.out.C hrb HB1.out (Nat.le_of_eq HG.out.symm) ?_; intro w2 hk2 hb2; have HDX := Aside0.mk (HDW.out.below hb2); have x0 := HDX.out.c0; have x1 := HDX.out.c1; have f0 := blk_frozen HDX.out.blk 0; have f1 := blk_frozen HDX.out.blk 1; have HB2 := Aside0.mk hb2; clear hb2))
    go_end0
    have hcb : crashB b s k t y = b.take r := by unfold crashB; rw [HQK.out, if_neg (by omega), HRR.out]
    have hlen : (b.take r).length = r := by simp; omega
    have hpg : p ≠ g := by have := HG.out; have := HBW.out.size; omega
    have hg0 : w.grownBy w2 (some p) := grown_of_below (below_then HBW.out HBW.out.size HB2.out) _
    have hk : OwnBytes ((w2.setCell ⟨p, 0, none⟩ (.slice (some ⟨g, 0, none⟩) r r)).setCell ⟨p, 1, none⟩ (.int .i64 (r : Int))) g (b.take r) := (Below.heap_setCell _ _ _ _ (fun e => hpg e.symm)).trans ((Below.heap_setCell _ _ _ _ (fun e => hpg e.symm)).trans hk2.out)
    rw [hcb, hlen]
    refine ⟨rfl, ⟨some ⟨g, 0, none⟩, r, ?_, by omega, hk.reads (by omega), (fun ad e => by cases e; exact ⟨_, hk⟩), by omega, hz, by omega⟩, gb_set (gb_set hg0 0 _) 1 _⟩
    rw [hlen]
    exact setD (setD HDX.out.blk 0 _) 1 _
  · by_cases ht1 : (q : Int) ≤ t
    · have d1 : decide (0 ≤ t) = true := decide_eq_true (by omega)
      have d2 : decide (t < (q : Int)) = false := decide_eq_false (by omega)
      go_wp2_with (first | ((with_reducible refine gate_dst (N := 30) rfl ?_); refine make_event rfl (N := 30) rfl 26 _ _ rfl .i64 .i64 r r rfl rfl (Nat.le_refl _) 5 (.int .u8 0) 1 Try.underlying26 info5 rfl (by omega) (by omega) ?_; intro g hg w1 hk1 hb1; have HDV := Aside0.mk (HDW.out.below hb1); have x0 := HDV.out.c0; have x1 := HDV.out.c1; have HK1 := Aside0.mk hk1; have HB1 := Aside0.mk hb1; have HG := Aside0.mk hg; clear hk1 hb1 hg) | ((with_reducible refine gate_dst (N := 36) rfl ?_); refine copy_event rfl _ _ rfl g r r rfl A c' b rfl HK1.out HDV.out.C hrb HB1.out (Nat.le_of_eq HG.out.symm) ?_; intro w2 hk2 hb2; have HDX := Aside0.mk (HDW.out.below hb2); have x0 := HDX.out.c0; have x1 := HDX.out.c1; have f0 := blk_frozen HDX.out.blk 0; have f1 := blk_frozen HDX.out.blk 1; have HB2 := Aside0.mk hb2; clear hb2))
      go_end0
      have hcb : crashB b s k t y = b.take r := by unfold crashB; rw [HQK.out, if_neg (by omega), HRR.out]
      have hlen : (b.take r).length = r := by simp; omega
      have hpg : p ≠ g := by have := HG.out; have := HBW.out.size; omega
      have hg0 : w.grownBy w2 (some p) := grown_of_below (below_then HBW.out HBW.out.size HB2.out) _
      have hk : OwnBytes ((w2.setCell ⟨p, 0, none⟩ (.slice (some ⟨g, 0, none⟩) r r)).setCell ⟨p, 1, none⟩ (.int .i64 (r : Int))) g (b.take r) := (Below.heap_setCell _ _ _ _ (fun e => hpg e.symm)).trans ((Below.heap_setCell _ _ _ _ (fun e => hpg e.symm)).trans hk2.out)
      rw [hcb, hlen]
      refine ⟨rfl, ⟨some ⟨g, 0, none⟩, r, ?_, by omega, hk.reads (by omega), (fun ad e => by cases e; exact ⟨_, hk⟩), by omega, hz, by omega⟩, gb_set (gb_set hg0 0 _) 1 _⟩
      rw [hlen]
      exact setD (setD HDX.out.blk 0 _) 1 _
    · obtain ⟨tn, rfl⟩ := Int.eq_ofNat_of_zero_le (show 0 ≤ t by omega)
      have htq : tn < q := by omega
      obtain ⟨u, hu⟩ : ∃ u : Nat, u = s + tn := ⟨_, rfl⟩
      have hmk2 : ((s : Int) + (tn : Int)) = (u : Int) := by omega
      have hur : u < r := by have := HRR.out; omega
      have hub : u < (b.take r).length := by simp; omega
      have HU := Aside0.mk hu
      clear hu ht0 ht1
      obtain ⟨y0, hy0⟩ : ∃ y0, (b.take r).getD u 0 = y0 := ⟨_, rfl⟩
      have HY0 := Aside0.mk hy0
      clear hy0
      obtain ⟨v, hv⟩ : ∃ v, Go.bits .xor .u8 y0 y = v := ⟨_, rfl⟩
      have d1 : decide (0 ≤ (tn : Int)) = true := decide_eq_true (by omega)
      have d2 : decide ((tn : Int) < (q : Int)) = true := decide_eq_true (by omega)
      have j1 : (u : Int) < (r : Int) := by omega
      go_wp2_with (first | ((with_reducible refine gate_dst (N := 30) rfl ?_); refine make_event rfl (N := 30) rfl 26 _ _ rfl .i64 .i64 r r rfl rfl (Nat.le_refl _) 5 (.int .u8 0) 1 Try.underlying26 info5 rfl (by omega) (by omega) ?_; intro g hg w1 hk1 hb1; have HDV := Aside0.mk (HDW.out.below hb1); have x0 := HDV.out.c0; have x1 := HDV.out.c1; have HK1 := Aside0.mk hk1; have HB1 := Aside0.mk hb1; have HG := Aside0.mk hg; clear hk1 hb1 hg) | ((with_reducible refine gate_dst (N := 36) rfl ?_); refine copy_event rfl _ _ rfl g r r rfl A c' b rfl HK1.out HDV.out.C hrb HB1.out (Nat.le_of_eq HG.out.symm) ?_; intro w2 hk2 hb2; have HDX := Aside0.mk (HDW.out.below hb2); have x0 := HDX.out.c0; have x1 := HDX.out.c1; have f0 := blk_frozen HDX.out.blk 0; have f1 := blk_frozen HDX.out.blk 1; have HB2 := Aside0.mk hb2; clear hb2; have xg : w2.cell? ⟨g, u, none⟩ = some (.int .u8 y0) := (ob_cell hk2.out u hub).trans (by rw [HY0.out]); have fg := blk_frozen hk2.out u; have hpg := ne_of_lt2 hlt HBW.out.size HG.out; have hgp := fun e => hpg (Eq.symm e)))
      go_end0
      have hst : s + tn = u := HU.out.symm
      have hcb : crashB b s k (tn : Int) y = (b.take r).set u v := by
        unfold crashB
        rw [HQK.out, if_pos ⟨by omega, by omega⟩, ← HRR.out, Int.toNat_natCast, hst, HY0.out, hv]
      have hlen : ((b.take r).set u v).length = r := by simp; omega
      have hg0 : w.grownBy w2 (some p) := grown_of_below (below_then HBW.out HBW.out.size HB2.out) _
      have hg1 : w.grownBy (w2.setCell ⟨g, u, none⟩ (.int .u8 v)) (some p) := ⟨hg0.os, hg0.tape, hg0.output, by simpa [World.setCell] using hg0.size, fun k' hk' hne => (Below.heap_setCell _ _ _ _ (by show k' ≠ g; have := HG.out; have := HBW.out.size; omega)).trans (hg0.block k' hk' hne)⟩
      have hk : OwnBytes (((w2.setCell ⟨g, u, none⟩ (.int .u8 v)).setCell ⟨p, 0, none⟩ (.slice (some ⟨g, 0, none⟩) r r)).setCell ⟨p, 1, none⟩ (.int .i64 (r : Int))) g ((b.take r).set u v) := (Below.heap_setCell _ _ _ _ (fun e => hpg e.symm)).trans ((Below.heap_setCell _ _ _ _ (fun e => hpg e.symm)).trans (ob_set hk2.out u v))
      have hp0 := (Below.heap_setCell w2 ⟨g, u, none⟩ (.int .u8 v) p hpg).trans HDX.out.blk
      rw [hcb, hlen]
      refine ⟨rfl, ⟨some ⟨g, 0, none⟩, r, ?_, by omega, hk.reads (by omega), (fun ad e => by cases e; exact ⟨_, hk⟩), by omega, hz, by omega⟩, gb_set (gb_set hg1 0 _) 1 _⟩
      rw [hlen]
      exact setD (setD hp0 0 _) 1 _
end Go.Proofs.Ytpaphcoloogdlaa.Dk
