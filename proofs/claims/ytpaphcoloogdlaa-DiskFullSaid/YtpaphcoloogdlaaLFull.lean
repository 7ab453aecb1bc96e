/- DiskFull, walked. -/
import Derived.Test.YtpaphcoloogdlaaLOrder
import Derived.Test.YtpaphcoloogdlaaOpDo
namespace Go.Proofs.Ytpaphcoloogdlaa.Dk
open Go.RowKit Go.Proofs.YtpaphcoloogdlaaW.PrintWords Go.Proofs.YtpaphcoloogdlaaW.PrintLast Go.Proofs.YtpaphcoloogdlaaW.PrintMore Go.Proofs.Ytpaphcoloogdlaa.Kit Go.Proofs.Ytpaphcoloogdlaa.PDiskPlays
set_option linter.unusedVariables false
set_option linter.unusedSimpArgs false
theorem at_rows {w : World} {A : Option Addr} {xs : List (List Int)} (h : Kd.C (Kd.slice 5 (Kd.int .u8)) w A xs.length xs) (k : Nat) (x : List Int) (hx : xs[k]? = some x) :
    ∃ ad A0 c0, A = some ad ∧ w.cell? (ad.add k) = some (.slice A0 x.length c0) ∧ x.length ≤ c0 ∧ (Kd.int .u8).C w A0 x.length x := by
  have hk : k < xs.length := (List.getElem?_eq_some_iff.1 hx).1
  have hrd : rd_L2 xs (k : Int) = x := by simp [rd_L2, hx]
  obtain ⟨ad, A0, c0, e, h1, h2, h3⟩ := at_L2 h (k : Int) (by omega) (by omega)
  rw [hrd] at h1 h2 h3
  exact ⟨ad, A0, c0, e, by simpa using h1, h2, h3⟩
set_option maxHeartbeats 4000000 in
set_option maxRecDepth 100000 in
theorem law_full (z : Int) (A0 : Option Addr) (c0 : Nat) (l : List (List Int)) (w : World) (hz : (Lit.int .i64 z).wf = true) (hr0 : Kd.C (Kd.slice 5 (Kd.int .u8)) w A0 l.length l) (hc0 : l.length ≤ c0) :
    Calls Try.prog 3 #[.int .i64 z, .slice A0 l.length c0] w (TruePost w) := by
  have HR := Aside0.mk hr0
  have m0 := Kd.C_max hr0
  clear hr0
  by_cases hzz : z < 0 ∨ 1048576 < z
  · go_enter Try.func3, Try.ntmps3
    go_wp2_with (first | (go_at_call 10; (with_reducible refine (new_none z _ hzz).mono ?_); rintro e w1 ⟨rfl, ⟨m1, rfl⟩⟩) | (go_at_call 11; (with_reducible refine (awake_calls _).mono ?_); rintro e w2 ⟨rfl, hb2⟩; have HB2 := Aside0.mk (below_then (show Below w.heap.size w _ by repeat (first | exact Below.refl _ _ | apply pw_below_drewN | apply below_drew1)) (Below.size (show Below w.heap.size w _ by repeat (first | exact Below.refl _ _ | apply pw_below_drewN | apply below_drew1))) hb2); clear hb2))
    go_ret
    exact ⟨rfl, HB2.out⟩
  · obtain ⟨Z, rfl⟩ : ∃ Z : Nat, z = (Z : Int) := ⟨z.toNat, by omega⟩
    have hZ : Z ≤ 1048576 := by omega
    clear hzz hz
    by_cases h1 : 100 < l.length
    · have d1 : decide (100 < (l.length : Int)) = true := decide_eq_true (by omega)
      go_enter Try.func3, Try.ntmps3
      go_wp2_with (first | (go_at_call 10; (with_reducible refine (new_calls (Z : Int) _ (by omega)).mono ?_); rintro e w1 ⟨p, rfl, hp, hd, hb⟩; have HB1 := Aside0.mk hb; clear hd hb hp) | (go_at_call 11; (with_reducible refine (awake_calls _).mono ?_); rintro e w2 ⟨rfl, hb2⟩; have HB2 := Aside0.mk (below_then (show Below w.heap.size w _ by repeat (first | exact HB1.out | apply pw_below_drewN | apply below_drew1)) (Below.size (show Below w.heap.size w _ by repeat (first | exact HB1.out | apply pw_below_drewN | apply below_drew1))) hb2); clear hb2))
      go_ret
      exact ⟨rfl, HB2.out⟩
    · have d1 : decide (100 < (l.length : Int)) = false := decide_eq_false (by omega)
      go_enter Try.func3, Try.ntmps3
      go_wp2_with (first | (go_at_call 10; (with_reducible refine (new_calls (Z : Int) _ (by omega)).mono ?_); rintro e w1 ⟨p, rfl, hp, hd, hb⟩; have HD1 : Aside0 (DiskAt w1 p [] 0 Z) := ⟨by simpa using hd⟩; have HP := Aside0.mk hp; have HB1 := Aside0.mk hb; clear hd hb hp))
      go_loopw [6, 22] (fun n i wr => ∃ (k : Nat) (b : List Int), k ≤ l.length ∧ b.length ≤ Z ∧ i = .int .i64 k ∧ n = .int .i64 b.length ∧ Aside0 (DiskAt wr p b 0 Z) ∧ Aside0 (Below w.heap.size w wr)) (fun _ i _ => l.length - (intOf i).toNat)
      case atStart => exact ⟨0, [], by omega, by simp, rfl, rfl, ⟨HD1.out.below (by repeat (first | exact Below.refl _ _ | apply pw_below_drewN | apply below_drew1))⟩, ⟨by repeat (first | exact HB1.out | apply pw_below_drewN | apply below_drew1)⟩⟩
      case round =>
        obtain ⟨k, b, hk, hbl, rfl, rfl, HD, HB⟩ := hrel
        by_cases hlt : k < l.length
        · obtain ⟨x, hx⟩ : ∃ x, l[k]? = some x := ⟨_, List.getElem?_eq_getElem hlt⟩
          obtain ⟨ad0, Ax, cx, e0, x0, hxc, hxC⟩ := at_rows (Kd.C_below HR.out HB.out) k x hx
          subst e0
          have HX := Aside0.mk hxC
          have hxm := Kd.C_max hxC
          clear hxC hx
          have j1 : (k : Int) < (l.length : Int) := by omega
          by_cases h2 : 100 < x.length
          · have d2 : decide (100 < (x.length : Int)) = true := decide_eq_true (by omega)
            go_wp2_with (first | (go_at_call 11; (with_reducible refine (awake_calls _).mono ?_); rintro e w2 ⟨rfl, hb2⟩; have HB2 := Aside0.mk (below_then (show Below w.heap.size w _ by repeat (first | exact HB.out | apply pw_below_drewN | apply below_drew1)) (Below.size (show Below w.heap.size w _ by repeat (first | exact HB.out | apply pw_below_drewN | apply below_drew1))) hb2); clear hb2))
            go_ret
            exact ⟨rfl, HB2.out⟩
          · have d2 : decide (100 < (x.length : Int)) = false := decide_eq_false (by omega)
            by_cases h3 : b.length + x.length ≤ Z
            · have d3 : decide ((x.length : Int) ≤ (Z : Int) - (b.length : Int)) = true := decide_eq_true (by omega)
              go_wp2_with (first | ((with_reducible refine gate_dst (N := 31) rfl ?_); refine lit_event (w0 := wr) wr.heap.size rfl (N := 31) rfl .u8 5 [] ?hr (Below.refl _ _) (Nat.le_refl _) (by simp) ?_; (case hr => first | (go_simp; done) | (go_simp; rfl) | (go_simp; exact ⟨rfl, rfl⟩)); intro v5 w5 ho5 hb5 hbb5; have HO5 := Aside0.mk ho5; have HB5 := Aside0.mk hb5; have HBB5 := Aside0.mk hbb5; clear ho5 hb5 hbb5) | ((with_reducible refine gate_dst (N := 33) rfl ?_); refine appN_event (w0 := wr) wr.heap.size rfl (N := 33) rfl .u8 _ _ 26 5 (.int .u8 0) 1 rfl Try.underlying26 info5 rfl (by omega) v5 [] x Ax x.length cx rfl rfl HO5.out (Kd.C_below HX.out HB5.out) HB5.out HB5.out.size (by simp; omega) ?_; intro v6 w6 ho6 hb6 hg6; obtain ⟨A6, c6, ev6, hc6, hr6⟩ := ho6.reads; rw [List.nil_append] at ev6 hr6; subst ev6; have HR6 := Aside0.mk hr6; have HD6 := Aside0.mk (HD.out.below hb6); have HB6 := Aside0.mk (below_then HB.out HB.out.size hb6); clear ho6 hb6 hg6 hr6 hc6) | (go_at_call 12; (with_reducible refine (append_calls p b 0 Z A6 x c6 _ HD6.out HR6.out h3).mono ?_); rintro e w7 ⟨rfl, hd7, hg7⟩; have HD7 := Aside0.mk hd7; have HB7 := Aside0.mk (below_gb HB6.out HB6.out.size hg7 HP.out); clear hd7 hg7) | (go_at_call 13; (with_reducible refine (bytes_calls p (b ++ x) 0 Z _ HD7.out).mono ?_); rintro e w8 ⟨g8, rfl, hg8, hk8, hb8⟩; have HD8 := Aside0.mk (HD7.out.below hb8); have HB8 := Aside0.mk (below_then HB7.out HB7.out.size hb8); clear hg8 hk8 hb8))
              go_roundw
              case rel => exact ⟨k + 1, b ++ x, by omega, by simp; omega, by first | (go_num; done) | rfl | simp, by first | rfl | (simp; done) | go_num, HD8, HB8⟩
              case measure =>
                simp [intOf]
                omega
            · have d3 : decide ((x.length : Int) ≤ (Z : Int) - (b.length : Int)) = false := decide_eq_false (by omega)
              go_wp2_with (first | ((with_reducible refine gate_dst (N := 31) rfl ?_); refine lit_event (w0 := wr) wr.heap.size rfl (N := 31) rfl .u8 5 [] ?hr (Below.refl _ _) (Nat.le_refl _) (by simp) ?_; (case hr => first | (go_simp; done) | (go_simp; rfl) | (go_simp; exact ⟨rfl, rfl⟩)); intro v5 w5 ho5 hb5 hbb5; have HO5 := Aside0.mk ho5; have HB5 := Aside0.mk hb5; have HBB5 := Aside0.mk hbb5; clear ho5 hb5 hbb5) | ((with_reducible refine gate_dst (N := 33) rfl ?_); refine appN_event (w0 := wr) wr.heap.size rfl (N := 33) rfl .u8 _ _ 26 5 (.int .u8 0) 1 rfl Try.underlying26 info5 rfl (by omega) v5 [] x Ax x.length cx rfl rfl HO5.out (Kd.C_below HX.out HB5.out) HB5.out HB5.out.size (by simp; omega) ?_; intro v6 w6 ho6 hb6 hg6; obtain ⟨A6, c6, ev6, hc6, hr6⟩ := ho6.reads; rw [List.nil_append] at ev6 hr6; subst ev6; have HR6 := Aside0.mk hr6; have HD6 := Aside0.mk (HD.out.below hb6); have HB6 := Aside0.mk (below_then HB.out HB.out.size hb6); clear ho6 hb6 hg6 hr6 hc6) | (go_at_call 12; (with_reducible refine (append_full p b 0 Z A6 x.length c6 _ HD6.out (by omega) (by omega)).mono ?_); rintro e w7 ⟨rfl, ⟨m7, rfl⟩⟩; have HD7 := Aside0.mk (HD6.out.below (pw_below_drewN (Below.refl _ _) m7)); have HB7 := Aside0.mk (pw_below_drewN HB6.out m7)) | (go_at_call 13; (with_reducible refine (bytes_calls p b 0 Z _ HD7.out).mono ?_); rintro e w8 ⟨g8, rfl, hg8, hk8, hb8⟩; have HD8 := Aside0.mk (HD7.out.below hb8); have HB8 := Aside0.mk (below_then HB7.out HB7.out.size hb8); clear hg8 hk8 hb8))
              go_roundw
              case rel => exact ⟨k + 1, b, by omega, by omega, by go_num, rfl, HD8, HB8⟩
              case measure => simp [intOf]; omega
        · have hke : k = l.length := by omega
          subst hke
          go_wp2_with (first | (go_at_call 11; (with_reducible refine (awake_calls _).mono ?_); rintro e w2 ⟨rfl, hb2⟩; have HB2 := Aside0.mk (below_then (show Below w.heap.size w _ by repeat (first | exact HB.out | apply pw_below_drewN | apply below_drew1)) (Below.size (show Below w.heap.size w _ by repeat (first | exact HB.out | apply pw_below_drewN | apply below_drew1))) hb2); clear hb2))
          go_ret
          exact ⟨rfl, HB2.out⟩
end Go.Proofs.Ytpaphcoloogdlaa.Dk
