/- DiskNobody, walked. -/
import Derived.Test.YtpaphcoloogdlaaLOrder
import Derived.Test.YtpaphcoloogdlaaOpDo
namespace Go.Proofs.Ytpaphcoloogdlaa.Dk
open Go.RowKit Go.Proofs.YtpaphcoloogdlaaW.PrintWords Go.Proofs.YtpaphcoloogdlaaW.PrintLast Go.Proofs.YtpaphcoloogdlaaW.PrintMore Go.Proofs.Ytpaphcoloogdlaa.Kit Go.Proofs.Ytpaphcoloogdlaa.PDiskPlays
set_option linter.unusedVariables false
set_option linter.unusedSimpArgs false
theorem below_thenR {B : Nat} {w w1 w2 : World} (hB : B ≤ w.heap.size) (h : Below B w w1) (k : Below w1.heap.size w1 w2) : Below B w w2 := below_then h (Nat.le_trans hB h.size) k
set_option maxHeartbeats 4000000 in
set_option maxRecDepth 100000 in
theorem law_nobody (cs : List Value) (x : S40) (w : World) (hK : k40.K w x cs) : Calls Try.prog 9 #[.agg cs.toArray] w (TruePost w) := by
  obtain ⟨A4, c4, rfl, hl4, hC4⟩ := k40_open hK
  have m0 := Kd.C_max hC4
  clear hK hC4
  by_cases h1 : 100 < x.f4.length
  · have d1 : decide (100 < (x.f4.length : Int)) = true := decide_eq_true (by omega)
    go_enter Try.func9, Try.ntmps9
    go_wp2_with (go_at_call 11; (with_reducible refine (awake_calls _).mono ?_); rintro e w2 ⟨rfl, hb2⟩; have HB2 := Aside0.mk hb2; clear hb2)
    go_ret
    refine ⟨rfl, below_thenR (Nat.le_refl _) ?_ HB2.out⟩
    repeat (first | exact below_alloc (Below.refl _ _) _ | apply pw_below_drewN)
  · have d1 : decide (100 < (x.f4.length : Int)) = false := decide_eq_false (by omega)
    go_enter Try.func9, Try.ntmps9
    go_wp2_with (first | (go_at_call 23; (with_reducible refine (sync_nil _).mono ?_); rintro e w2 ⟨rfl, ⟨m2, rfl⟩⟩) | (go_at_call 21; (with_reducible refine (crash_nil _ _ _ _).mono ?_); rintro e w3 ⟨rfl, ⟨m3, rfl⟩⟩) | (go_at_call 12; (with_reducible refine (append_nil _ _ _ _).mono ?_); rintro e w4 ⟨rfl, ⟨m4, rfl⟩⟩) | (go_at_call 24; (with_reducible refine (cut_nil _ _).mono ?_); rintro e w5 ⟨rfl, ⟨m5, rfl⟩⟩) | (go_at_call 25; (with_reducible refine (replace_nil _ _ _ _).mono ?_); rintro e w6 ⟨rfl, ⟨m6, rfl⟩⟩) | (go_at_call 13; (with_reducible refine (bytes_nil _).mono ?_); rintro e w7 ⟨rfl, ⟨m7, rfl⟩⟩) | (go_at_call 20; (with_reducible refine (safe_nil _).mono ?_); rintro e w8 ⟨rfl, ⟨m8, rfl⟩⟩) | (go_at_call 15; (with_reducible refine (room_nil _).mono ?_); rintro e w9 ⟨rfl, ⟨m9, rfl⟩⟩) | (go_at_call 22; (with_reducible refine (copy_nil _).mono ?_); rintro e w10 ⟨rfl, ⟨m10, rfl⟩⟩) | (go_at_call 11; (with_reducible refine (awake_calls _).mono ?_); rintro e w2 ⟨rfl, hb2⟩; have HB2 := Aside0.mk hb2; clear hb2))
    go_ret
    refine ⟨rfl, below_thenR (Nat.le_refl _) ?_ HB2.out⟩
    repeat (first | exact below_alloc (Below.refl _ _) _ | apply pw_below_drewN)
end Go.Proofs.Ytpaphcoloogdlaa.Dk
