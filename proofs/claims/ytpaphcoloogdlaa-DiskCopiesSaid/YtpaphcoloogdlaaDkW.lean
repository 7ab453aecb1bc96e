/- One step in both, together; what a disk shows. -/
import Derived.Test.YtpaphcoloogdlaaDkV
import Derived.Test.YtpaphcoloogdlaaLOrder
namespace Go.Proofs.Ytpaphcoloogdlaa.Dk
open Go.RowKit Go.Proofs.YtpaphcoloogdlaaW.PrintWords Go.Proofs.YtpaphcoloogdlaaW.PrintLast Go.Proofs.YtpaphcoloogdlaaW.PrintMore Go.Proofs.Ytpaphcoloogdlaa.Kit Go.Proofs.Ytpaphcoloogdlaa.PDiskPlays
set_option linter.unusedVariables false
set_option linter.unusedSimpArgs false
/-- A disk behind a step. -/
def stD (x : S40) (b : List Int) (s z : Nat) : List Int × Nat × Int :=
  if x.f0 = 0 then dAppend b s z x.f4 else if x.f0 = 1 then (b, b.length, 0) else if x.f0 = 2 then dCut b s z x.f1 else if x.f0 = 3 then dReplace b s z x.f4
  else if x.f0 = 4 then (crashB b s x.f1 x.f2 x.f3, (crashB b s x.f1 x.f2 x.f3).length, 0) else (b, s, 0)
/-- The document's behind it. -/
def stR (x : S40) (S L : List Int) (z : Nat) : List Int × List Int × Int :=
  if x.f0 = 0 then rAppend S L z x.f4 else if x.f0 = 1 then (S ++ L, [], 0) else if x.f0 = 2 then rCut S L z x.f1 else if x.f0 = 3 then rReplace S L z x.f4
  else if x.f0 = 4 then (S ++ crashP L x.f2 x.f3 (keptL L x.f1), [], 0) else (S, L, 0)
theorem does_calls (p : Nat) (b : List Int) (s z : Nat) (v : Value) (S L : List Int) (zr : Nat) (cs : List Value) (x : S40) (w : World) (hd : DiskAt w p b s z) (hr : Rf w v S L zr) (hK : k40.K w x cs) (hB : x.f4.length ≤ 100) (hy : 0 ≤ x.f3 ∧ x.f3 < 256) :
    Calls Try.prog 18 #[.pointer (some ⟨p, 0, none⟩), v, .agg cs.toArray] w fun e w' => ∃ v', e = .returned (.tuple #[v', .bool ((stR x S L zr).2.2 == (stD x b s z).2.2)]) ∧ DiskAt w' p (stD x b s z).1 (stD x b s z).2.1 z ∧ Rf w' v' (stR x S L zr).1 (stR x S L zr).2.1 zr ∧ w.grownBy w' (some p) := by
  unfold stD stR
  by_cases h0 : x.f0 = 0
  · simp only [if_pos h0]
    exact does_0 p b s z v S L zr cs x w hd hr hK hB h0
  by_cases h1 : x.f0 = 1
  · simp only [if_neg h0, if_pos h1]
    exact does_1 p b s z v S L zr cs x w hd hr hK hB h1
  by_cases h2 : x.f0 = 2
  · simp only [if_neg h0, if_neg h1, if_pos h2]
    exact does_2 p b s z v S L zr cs x w hd hr hK hB h2
  by_cases h3 : x.f0 = 3
  · simp only [if_neg h0, if_neg h1, if_neg h2, if_pos h3]
    exact does_3 p b s z v S L zr cs x w hd hr hK hB h3
  by_cases h4 : x.f0 = 4
  · simp only [if_neg h0, if_neg h1, if_neg h2, if_neg h3, if_pos h4]
    exact does_4 p b s z v S L zr cs x w hd hr hK hB hy h4
  · simp only [if_neg h0, if_neg h1, if_neg h2, if_neg h3, if_neg h4]
    exact does_x p b s z v S L zr cs x w hd hr hK hB ⟨h0, h1, h2, h3, h4⟩
theorem Lp.below {w W wr : World} {g n B : Nat} (h : Lp W wr g n) (hb : Below B w W) (hB : B ≤ W.heap.size) (hg : B ≤ g) : Below B w wr := by
  rcases h with ⟨h0, rfl⟩ | ⟨h0, h1, h2⟩
  · exact hb
  · exact below_gb hb hB h1 hg
theorem ob_own {w : World} {g : Nat} {b : List Int} (h : OwnBytes w g b) : OwnB w g b.length := ⟨_, h, by simp [nums], fun j hj => ⟨b[j], by simp [nums, hj]⟩⟩
set_option maxHeartbeats 8000000 in
set_option maxRecDepth 100000 in
theorem is_calls (p : Nat) (b : List Int) (z : Nat) (v : Value) (S L : List Int) (w : World) (hd : DiskAt w p b S.length z) (hr : Rf w v S L z) (hbe : b = S ++ L) :
    Calls Try.prog 19 #[.pointer (some ⟨p, 0, none⟩), v] w (TruePost w) := by
  obtain ⟨A, c, A', c', rfl, h1, h2, h3, h4⟩ := hr
  have HD := Aside0.mk hd
  have HR := Aside0.mk (show Rf w _ S L z from ⟨A, c, A', c', rfl, h1, h2, h3, h4⟩)
  have HBE := Aside0.mk hbe
  have HBL : Aside0 (b.length = S.length + L.length) := ⟨by rw [hbe]; simp⟩
  have hbl : b.length ≤ z := by have := HBL.out; omega
  have hwr : IntKind.i64.wrap ((z : Int) - (b.length : Int)) = (z : Int) - (b.length : Int) := by rw [IntKind.wrap_i64]; omega
  clear hd h1 h2 hbe h3
  go_enter Try.func19, Try.ntmps19
  go_wp2_with (go_at_call 13; (with_reducible refine (bytes_calls p b S.length z _ (HD.out.below (below_alloc (Below.refl _ _) _))).mono ?_); rintro e w8 ⟨g8, rfl, hg8, hk8, hb8⟩; have HG8 := Aside0.mk hg8; have HK8 := Aside0.mk hk8; have HBX := Aside0.mk (below_thenR (Nat.le_refl _) (below_alloc (Below.refl _ _) _) hb8); have HBA := Aside0.mk hb8; have x0 := (blk_cell (blk_below (blk_new w _) hb8) 0).trans rfl; have x1 := (blk_cell (blk_below (blk_new w _) hb8) 1).trans rfl; have x2 := (blk_cell (blk_below (blk_new w _) hb8) 2).trans rfl; clear hg8 hk8 hb8)
  go_region_held3 (fun w' => w'.cell? ⟨w.heap.size, 0, none⟩ = some (.slice A S.length c) ∧ w'.cell? ⟨w.heap.size, 1, none⟩ = some (.slice A' L.length c') ∧ w'.cell? ⟨w.heap.size, 2, none⟩ = some (.int .i64 (z : Int))) (go_keep) (first | (go_at_call 31; have hm := HM15.out; refine (rall_calls (X := fun _ => False) _ S L z _ ?hR2).mono ?_; (case hR2 => refine HR.out.below ?_; repeat (first | exact HB11.out | apply pw_below_drewN | apply below_drew1)); rintro e w15 ⟨A15, c15, rfl, ha15, hb15⟩; rw [← HBE.out] at ha15 ⊢; have V15 := Aside0.mk (below_then (show Below w8.heap.size w8 _ by repeat (first | exact V11.out | apply pw_below_drewN | apply below_drew1)) (Below.size (show Below w8.heap.size w8 _ by repeat (first | exact V11.out | apply pw_below_drewN | apply below_drew1))) hb15); have x0 := (blk_cell (blk_below (blk_below (blk_new w _) HBA.out) V15.out) 0).trans rfl; have x1 := (blk_cell (blk_below (blk_below (blk_new w _) HBA.out) V15.out) 1).trans rfl; have x2 := (blk_cell (blk_below (blk_below (blk_new w _) HBA.out) V15.out) 2).trans rfl; clear hb15 ha15) | (go_at_call 31; refine (rall_calls (X := fun _ => False) _ S L z _ ?hR).mono ?_; (case hR => refine HR.out.below ?_; repeat (first | exact HBX.out | apply pw_below_drewN | apply below_drew1)); rintro e w11 ⟨A11, c11, rfl, ha11, hb11⟩; rw [← HBE.out] at ha11 ⊢; have HA11 := Aside0.mk ha11; have V11 := Aside0.mk (below_then (show Below w8.heap.size w8 _ by repeat (first | exact Below.refl _ _ | apply pw_below_drewN | apply below_drew1)) (Below.size (show Below w8.heap.size w8 _ by repeat (first | exact Below.refl _ _ | apply pw_below_drewN | apply below_drew1))) hb11); have HB11 := Aside0.mk (below_thenR (Nat.le_refl _) HBX.out V11.out); have x0 := (blk_cell (blk_below (blk_below (blk_new w _) HBA.out) V11.out) 0).trans rfl; have x1 := (blk_cell (blk_below (blk_below (blk_new w _) HBA.out) V11.out) 1).trans rfl; have x2 := (blk_cell (blk_below (blk_below (blk_new w _) HBA.out) V11.out) 2).trans rfl; clear hb11 ha11) | (go_at_call 14; (with_reducible refine (same_calls (some ⟨g8, 0, none⟩) b.length b A11 c11 b _ ?hS ?hT ?hU ?hV (by omega)).mono ?_); (case hS => refine Kd.C_below (OwnBytes.reads (HK8.out.below V11.out) (by omega)) ?_; repeat (first | exact Below.refl _ _ | apply pw_below_drewN | apply below_drew1)); (case hT => exact Nat.le_refl _); (case hU => refine Kd.C_below HA11.out.2.1 ?_; repeat (first | exact Below.refl _ _ | apply pw_below_drewN | apply below_drew1)); (case hV => exact HA11.out.1); rintro e w12 ⟨rfl, ⟨m12, rfl⟩⟩; rw [decide_eq_true (rfl : b = b)]) | (go_at_call 20; (with_reducible refine (safe_calls p b S.length z _ ?hR3).mono ?_); (case hR3 => refine HD.out.below ?_; repeat (first | exact HB11.out | apply pw_below_drewN | apply below_drew1)); rintro e w13 ⟨rfl, ⟨m13, rfl⟩⟩) | (go_at_call 15; (with_reducible refine (room_calls p b S.length z _ ?hR4).mono ?_); (case hR4 => refine HD.out.below ?_; repeat (first | exact HB11.out | apply pw_below_drewN | apply below_drew1)); rintro e w14 ⟨rfl, ⟨m14, rfl⟩⟩; have HM15 := Aside0.mk trivial))
  go_wp2
  go_loopw [35] (fun i wr => ∃ k : Nat, i = .int .i64 k ∧ k ≤ b.length ∧ Aside0 (Lp w15 wr g8 b.length)) (fun i _ => b.length - (intOf i).toNat)
  case atStart => exact ⟨0, rfl, by omega, ⟨Lp.start fun _ => ob_own (HK8.out.below V15.out)⟩⟩
  case round =>
    obtain ⟨k, rfl, hk, HL⟩ := hrel
    by_cases hlt : k < b.length
    · have hp : 0 < b.length := by omega
      obtain ⟨u, cu, fu⟩ := (HL.out.own hp).at_ k hlt
      have j1 : (k : Int) < (b.length : Int) := by omega
      go_wp2
      exact ⟨⟨k + 1, by simp, by omega, ⟨HL.out.step hp k _⟩⟩, by simp [intOf]; omega⟩
    · have hke : k = b.length := by omega
      subst hke
      have hg8 : w.heap.size < g8 := by have := HG8.out; simp at this; omega
      have HB15 := Aside0.mk (below_thenR (Nat.le_refl _) HBX.out V15.out)
      have HKr := Aside0.mk (HL.out.blk (blk_below (blk_below (blk_new w _) HBA.out) V15.out) (fun _ => by omega))
      have HDr := Aside0.mk (HL.out.disk ((HD.out.fresh (fun k hk => by rw [hk.1]; omega)).below HB15.out) (fun _ => by have := HD.out.lt; omega))
      have HRr := Aside0.mk (HL.out.rf ((HR.out.fresh (fun k hk => by rw [hk.1]; omega)).below HB15.out))
      have HBr := Aside0.mk (HL.out.below HB15.out HB15.out.size (by omega))
      have x0 := (blk_cell HKr.out 0).trans rfl
      have x1 := (blk_cell HKr.out 1).trans rfl
      have x2 := (blk_cell HKr.out 2).trans rfl
      clear hg8
      go_wp2
      go_region_held3 (fun w' => w'.cell? ⟨w.heap.size, 0, none⟩ = some (.slice A S.length c) ∧ w'.cell? ⟨w.heap.size, 1, none⟩ = some (.slice A' L.length c') ∧ w'.cell? ⟨w.heap.size, 2, none⟩ = some (.int .i64 (z : Int))) (go_keep) (first | (go_at_call 13; (with_reducible refine (bytes_calls p b S.length z _ ?hB5).mono ?_); (case hB5 => refine HDr.out.below ?_; repeat (first | exact Below.refl _ _ | apply pw_below_drewN | apply below_drew1)); rintro e w22 ⟨g22, rfl, hg22, hk22, hb22⟩; have HK22 := Aside0.mk hk22; have V22 := Aside0.mk (below_then (show Below wr.heap.size wr _ by repeat (first | exact Below.refl _ _ | apply pw_below_drewN | apply below_drew1)) (Below.size (show Below wr.heap.size wr _ by repeat (first | exact Below.refl _ _ | apply pw_below_drewN | apply below_drew1))) hb22); have x0 := (blk_cell (blk_below HKr.out V22.out) 0).trans rfl; have x1 := (blk_cell (blk_below HKr.out V22.out) 1).trans rfl; have x2 := (blk_cell (blk_below HKr.out V22.out) 2).trans rfl; clear hg22 hk22 hb22) | (go_at_call 31; refine (rall_calls (X := fun _ => False) _ S L z _ ?hR5).mono ?_; (case hR5 => refine HRr.out.below ?_; repeat (first | exact V22.out | apply pw_below_drewN | apply below_drew1)); rintro e w23 ⟨A23, c23, rfl, ha23, hb23⟩; rw [← HBE.out] at ha23 ⊢; have HA23 := Aside0.mk ha23; have HK23 := Aside0.mk (HK22.out.below (below_then (show Below w22.heap.size w22 _ by repeat (first | exact Below.refl _ _ | apply pw_below_drewN | apply below_drew1)) (Below.size (show Below w22.heap.size w22 _ by repeat (first | exact Below.refl _ _ | apply pw_below_drewN | apply below_drew1))) hb23)); have V23 := Aside0.mk (below_then (show Below wr.heap.size wr _ by repeat (first | exact V22.out | apply pw_below_drewN | apply below_drew1)) (Below.size (show Below wr.heap.size wr _ by repeat (first | exact V22.out | apply pw_below_drewN | apply below_drew1))) hb23); have x0 := (blk_cell (blk_below HKr.out V23.out) 0).trans rfl; have x1 := (blk_cell (blk_below HKr.out V23.out) 1).trans rfl; have x2 := (blk_cell (blk_below HKr.out V23.out) 2).trans rfl; clear hb23 ha23) | (go_at_call 14; (with_reducible refine (same_calls (some ⟨g22, 0, none⟩) b.length b A23 c23 b _ ?hS5 ?hT5 ?hU5 ?hV5 (by omega)).mono ?_); (case hS5 => refine Kd.C_below (OwnBytes.reads HK23.out (by omega)) ?_; repeat (first | exact Below.refl _ _ | apply pw_below_drewN | apply below_drew1)); (case hT5 => exact Nat.le_refl _); (case hU5 => refine Kd.C_below HA23.out.2.1 ?_; repeat (first | exact Below.refl _ _ | apply pw_below_drewN | apply below_drew1)); (case hV5 => exact HA23.out.1); rintro e w24 ⟨rfl, ⟨m24, rfl⟩⟩; rw [decide_eq_true (rfl : b = b)]))
      all_goals
        go_wp2
        go_ret
        exact ⟨rfl, below_thenR (Nat.le_refl _) HBr.out (show Below wr.heap.size wr _ by repeat (first | exact V23.out | apply pw_below_drewN | apply below_drew1))⟩
end Go.Proofs.Ytpaphcoloogdlaa.Dk
