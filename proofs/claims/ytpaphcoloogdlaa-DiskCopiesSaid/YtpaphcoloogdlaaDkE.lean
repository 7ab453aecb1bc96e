/- Crash, Copy. -/
import Derived.Test.YtpaphcoloogdlaaDkC
namespace Go.Proofs.Ytpaphcoloogdlaa.Dk
open Go.RowKit Go.Proofs.YtpaphcoloogdlaaW.PrintWords Go.Proofs.YtpaphcoloogdlaaW.PrintLast Go.Proofs.YtpaphcoloogdlaaW.PrintMore Go.Proofs.Ytpaphcoloogdlaa.Kit
set_option linter.unusedVariables false
set_option linter.unusedSimpArgs false
/-- Copy. -/
theorem copy_calls (p : Nat) (b : List Int) (s z : Nat) (w : World) (h : DiskAt w p b s z) :
    Calls Try.prog 22 #[.pointer (some ⟨p, 0, none⟩)] w fun e w' => ∃ q, e = .returned (.pointer (some ⟨q, 0, none⟩)) ∧ w.heap.size ≤ q ∧ DiskAt w' q b s z ∧ Below w.heap.size w w' := by
  have HD := Aside0.mk h
  obtain ⟨A, c', h⟩ := h
  have HK := Aside0.mk h
  have x1 := h.c1
  have x2 := h.c2
  have hf := h.fit
  have hz := h.most
  have hs := h.safe
  have hlt := h.lt
  clear h
  go_enter Try.func22, Try.ntmps22
  go_wp2
  go_region_held3 (fun w' => w'.cell? ⟨p, 1, none⟩ = some (.int .i64 (s : Int)) ∧ w'.cell? ⟨p, 2, none⟩ = some (.int .i64 (z : Int))) (go_keep) (first | (go_at_call 13; (with_reducible refine (bytes_calls p b s z _ ?hA).mono ?_); (case hA => refine HD.out.below ?_; repeat (first | exact Below.refl _ _ | apply pw_below_drewN | apply below_drew1)); rintro e w1 ⟨g1, rfl, hg1, hk1, hb1⟩; have HB1 := Aside0.mk (below_then (show Below w.heap.size w _ by repeat (first | exact Below.refl _ _ | apply pw_below_drewN | apply below_drew1)) (Below.size (show Below w.heap.size w _ by repeat (first | exact Below.refl _ _ | apply pw_below_drewN | apply below_drew1))) hb1); clear hb1; have HK1 := Aside0.mk hk1; clear hk1; have y1 := cell_below0 x1 HB1.out; have y2 := cell_below0 x2 HB1.out))
  all_goals
    go_wp2
    go_ret
    have hk : OwnBytes (w1.alloc (.cells #[.slice (some ⟨g1, 0, none⟩) b.length b.length, .int .i64 (s : Int), .int .i64 (z : Int)] 51)) g1 b := HK1.out.below (below_alloc (Below.refl _ _) _)
    exact ⟨w1.heap.size, rfl, HB1.out.size, ⟨some ⟨g1, 0, none⟩, b.length, blk_new _ _, Nat.le_refl _, hk.reads (by omega), (fun ad e => by cases e; exact ⟨_, hk⟩), hf, hz, hs⟩, below_alloc HB1.out _⟩
end Go.Proofs.Ytpaphcoloogdlaa.Dk
