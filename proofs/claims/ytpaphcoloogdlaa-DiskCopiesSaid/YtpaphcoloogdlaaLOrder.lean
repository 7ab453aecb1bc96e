/- DiskOrder, walked. -/
import Derived.Test.YtpaphcoloogdlaaDkF
namespace Go.Proofs.Ytpaphcoloogdlaa.Dk
open Go.RowKit Go.Proofs.YtpaphcoloogdlaaW.PrintWords Go.Proofs.YtpaphcoloogdlaaW.PrintLast Go.Proofs.YtpaphcoloogdlaaW.PrintMore Go.Proofs.Ytpaphcoloogdlaa.Kit Go.Proofs.Ytpaphcoloogdlaa.PDiskPlays
set_option linter.unusedVariables false
set_option linter.unusedSimpArgs false
theorem DiskAt.other {w w1 : World} {p q : Nat} {b b' : List Int} {s z s' z' : Nat} (h : DiskAt w q b s z) (hp : DiskAt w p b' s' z') (hg : w.grownBy w1 (some p)) (hne : p ≠ q) : DiskAt w1 q b s z := by
  obtain ⟨A, c, h⟩ := h
  obtain ⟨A', c', hp⟩ := hp
  refine ⟨A, c, h.grown hg fun k e => ?_⟩
  injection e with e
  subst e
  refine ⟨hne, fun cs hc => ?_⟩
  rw [hp.blk] at hc
  injection hc with hc
  injection hc with _ e5
  exact absurd e5 (by decide)
theorem same_rest (x y : List Int) (hxy : x.length = y.length) (hl : x.length < 9223372036854775807) (d : Nat) : ∀ (k i : Nat), i ≤ x.length → x.length - i = d → d < k →
    althinglaw08_same.l0 k x y (x.length : Int) (i : Int) = some (decide (x.drop i = y.drop i)) := by
  induction d with
  | zero =>
    intro k i hi hd hk
    obtain ⟨k, rfl⟩ : ∃ j, k = j + 1 := ⟨k - 1, by omega⟩
    simp only [althinglaw08_same.l0]
    rw [if_neg (by omega), List.drop_of_length_le (by omega), List.drop_of_length_le (by omega)]
    simp
  | succ d ih =>
    intro k i hi hd hk
    obtain ⟨k, rfl⟩ : ∃ j, k = j + 1 := ⟨k - 1, by omega⟩
    have hx : i < x.length := by omega
    have hy : i < y.length := by omega
    have w : wrap64 ((i : Int) + 1) = ((i + 1 : Nat) : Int) := by unfold wrap64; omega
    have rx : rd x (i : Int) = x[i] := by simp [rd, hx]
    have ry : rd y (i : Int) = y[i] := by simp [rd, hy]
    simp only [althinglaw08_same.l0]
    rw [if_pos (by omega), if_pos (by omega), if_pos (by omega), if_pos (by omega), rx, ry, w]
    rw [List.drop_eq_getElem_cons hx, List.drop_eq_getElem_cons hy]
    by_cases e : x[i] = y[i]
    · rw [if_pos e, ih k (i + 1) (by omega) (by omega) (by omega)]
      simp only [e, List.cons.injEq, true_and]
    · rw [if_neg e]
      simp only [List.cons.injEq, e, false_and, decide_false]
theorem same_eq (x y : List Int) (hl : x.length < 9223372036854775807) : ∃ k, althinglaw08_same.f k x y = some (decide (x = y)) := by
  unfold althinglaw08_same.f
  by_cases e : x.length = y.length
  · refine ⟨x.length + 1, ?_⟩
    rw [if_pos (by omega)]
    have := same_rest x y e hl x.length (x.length + 1) 0 (by omega) (by omega) (by omega)
    simpa using this
  · refine ⟨0, ?_⟩
    rw [if_neg (by omega)]
    have : x ≠ y := fun h => e (by rw [h])
    simp [this]
theorem same_calls (A0 : Option Addr) (c0 : Nat) (l0 : List Int) (A1 : Option Addr) (c1 : Nat) (l1 : List Int) (w : World) (hr0 : Kd.C (Kd.int .u8) w A0 l0.length l0) (hc0 : l0.length ≤ c0) (hr1 : Kd.C (Kd.int .u8) w A1 l1.length l1) (hc1 : l1.length ≤ c1) (hl : l0.length ≤ 10000000) :
    Calls Try.prog 14 #[.slice A0 l0.length c0, .slice A1 l1.length c1] w fun e w' => e = .returned (.bool (decide (l0 = l1))) ∧ Drawn0 w w' := by
  obtain ⟨k, h⟩ := same_eq l0 l1 (by omega)
  exact althinglaw08_same.calls k A0 c0 l0 A1 c1 l1 _ w hr0 hc0 hr1 hc1 h
set_option maxHeartbeats 4000000 in
set_option maxRecDepth 100000 in
theorem law_order (A0 A1 : Option Addr) (c0 c1 : Nat) (l0 l1 : List Int) (w : World) (hr0 : Kd.C (Kd.int .u8) w A0 l0.length l0) (hr1 : Kd.C (Kd.int .u8) w A1 l1.length l1) (hc0 : l0.length ≤ c0) (hc1 : l1.length ≤ c1) :
    Calls Try.prog 4 #[.slice A0 l0.length c0, .slice A1 l1.length c1] w (TruePost w) := by
  have HR0 := Aside0.mk hr0
  have HR1 := Aside0.mk hr1
  have m0 := Kd.C_max hr0
  have m1 := Kd.C_max hr1
  clear hr0 hr1
  by_cases h0 : 100 < l0.length
  · have d0 : decide (100 < (l0.length : Int)) = true := decide_eq_true (by omega)
    go_enter Try.func4, Try.ntmps4
    go_wp2_with (go_at_call 11; (with_reducible refine (awake_calls _).mono ?_); rintro e w1 ⟨rfl, hb1⟩; have HB1 := Aside0.mk hb1; clear hb1)
    go_ret
    exact ⟨rfl, HB1.out⟩
  · have d0 : decide (100 < (l0.length : Int)) = false := decide_eq_false (by omega)
    by_cases h1 : 100 < l1.length
    · have d1 : decide (100 < (l1.length : Int)) = true := decide_eq_true (by omega)
      go_enter Try.func4, Try.ntmps4
      go_wp2_with (go_at_call 11; (with_reducible refine (awake_calls _).mono ?_); rintro e w1 ⟨rfl, hb1⟩; have HB1 := Aside0.mk hb1; clear hb1)
      go_ret
      exact ⟨rfl, HB1.out⟩
    · have d1 : decide (100 < (l1.length : Int)) = false := decide_eq_false (by omega)
      obtain ⟨F, hF⟩ : ∃ F, F = l0 ++ l1 := ⟨_, rfl⟩
      have hFl : F.length = l0.length + l1.length := by rw [hF]; simp
      have HF := Aside0.mk hF
      clear hF
      go_enter Try.func4, Try.ntmps4
      go_wp2_with (first | (go_at_call 10; have hx := HB1.out; (with_reducible refine (new_calls 200 _ (by omega)).mono ?_); rintro e w2 ⟨q, rfl, hq, hd2, hb2⟩; have HE2 : Aside0 (DiskAt w2 q [] 0 200) := ⟨hd2⟩; have HD2 := Aside0.mk (HD1.out.below hb2); have HQ := Aside0.mk (Nat.le_trans HB1.out.size hq); have HPQ : Aside0 (p ≠ q) := ⟨by have := (HD1.out.elim fun _ h => h.elim fun _ h => h.lt); omega⟩; have HB2 := Aside0.mk (below_then HB1.out HB1.out.size hb2); clear hd2 hb2 hq hx) | (go_at_call 10; (with_reducible refine (new_calls 200 _ (by omega)).mono ?_); rintro e w1 ⟨p, rfl, hp, hd, hb⟩; have HD1 : Aside0 (DiskAt w1 p [] 0 200) := ⟨hd⟩; have HB1 := Aside0.mk hb; have HP := Aside0.mk hp; clear hd hb hp) | (go_at_call 12; (with_reducible refine (append_calls p [] 0 200 A0 l0 c0 _ HD2.out (Kd.C_below HR0.out HB2.out) (by simp; omega)).mono ?_); rintro e w3 ⟨rfl, hd3, hg3⟩; have HD3 : Aside0 (DiskAt w3 p l0 0 200) := ⟨hd3⟩; have HE3 := Aside0.mk (HE2.out.other HD2.out hg3 HPQ.out); have HB3 := Aside0.mk (below_gb HB2.out HB2.out.size hg3 HP.out); clear hd3 hg3) | (go_at_call 12; (with_reducible refine (append_calls p l0 0 200 A1 l1 c1 _ HD3.out (Kd.C_below HR1.out HB3.out) (by omega)).mono ?_); rintro e w4 ⟨rfl, hd4, hg4⟩; rw [← HF.out] at hd4; have HD4 := Aside0.mk hd4; have HE4 := Aside0.mk (HE3.out.other HD3.out hg4 HPQ.out); have HB4 := Aside0.mk (below_gb HB3.out HB3.out.size hg4 HP.out); clear hd4 hg4) | ((with_reducible refine gate_dst (N := 28) rfl ?_); refine lit_event (w0 := w4) w4.heap.size rfl (N := 28) rfl .u8 5 [] ?hr (Below.refl _ _) (Nat.le_refl _) (by simp) ?_; (case hr => first | (go_simp; done) | (go_simp; rfl) | (go_simp; exact ⟨rfl, rfl⟩)); intro v5 w5 ho5 hb5 hbb5; have HO5 := Aside0.mk ho5; have HB5 := Aside0.mk hb5; have HBB5 := Aside0.mk hbb5; clear ho5 hb5 hbb5) | ((with_reducible refine gate_dst (N := 30) rfl ?_); refine appN_event (w0 := w4) w4.heap.size rfl (N := 30) rfl .u8 _ _ 26 5 (.int .u8 0) 1 rfl Try.underlying26 info5 rfl (by omega) v5 [] l0 A0 l0.length c0 rfl rfl HO5.out (Kd.C_below HR0.out (below_then HB4.out HB4.out.size HB5.out)) HB5.out HB5.out.size (by simp; omega) ?_; intro v6 w6 ho6 hb6 hg6; have HO6 : Aside0 (Own .u8 5 w6 w4.heap.size v6 l0) := ⟨ho6⟩; have HB6 := Aside0.mk hb6; clear ho6 hb6 hg6) | ((with_reducible refine gate_dst (N := 32) rfl ?_); refine appN_event (w0 := w4) w4.heap.size rfl (N := 32) rfl .u8 _ _ 26 5 (.int .u8 0) 1 rfl Try.underlying26 info5 rfl (by omega) v6 l0 l1 A1 l1.length c1 rfl rfl HO6.out (Kd.C_below HR1.out (below_then HB4.out HB4.out.size HB6.out)) HB6.out HB6.out.size (by omega) ?_; intro v7 w7 ho7 hb7 hg7; rw [← HF.out] at ho7; obtain ⟨A7, c7, ev7, hc7, hr7⟩ := ho7.reads; subst ev7; have HR7 := Aside0.mk hr7; have HB7 := Aside0.mk hb7; have HW7 := Aside0.mk (below_then HB4.out HB4.out.size hb7); have HD7 := Aside0.mk (HD4.out.below hb7); have HE7 := Aside0.mk (HE4.out.below hb7); clear ho7 hb7 hg7 hc7 hr7) | (go_at_call 12; refine calls_of_args (args' := #[.pointer (some ⟨q, 0, none⟩), .slice A7 F.length c7]) (by rw [hFl]) ((append_calls q [] 0 200 A7 F c7 _ HE7.out HR7.out (by simp; omega)).mono ?_); rintro e w8 ⟨rfl, hd8, hg8⟩; have HE8 : Aside0 (DiskAt w8 q F 0 200) := ⟨hd8⟩; have HD8 := Aside0.mk (HD7.out.other HE7.out hg8 (fun e => HPQ.out e.symm)); have HB8 := Aside0.mk (below_gb HW7.out HW7.out.size hg8 HQ.out); clear hd8 hg8) | (go_at_call 13; (with_reducible refine (bytes_calls p F 0 200 _ HD8.out).mono ?_); rintro e w9 ⟨g9, rfl, hg9, hk9, hb9⟩; have HK9 := Aside0.mk (OwnBytes.reads hk9 (by omega)); have HB89 := Aside0.mk hb9; have HB9 := Aside0.mk (below_then HB8.out HB8.out.size hb9); clear hg9 hk9 hb9) | (go_at_call 13; (with_reducible refine (bytes_calls q F 0 200 _ (HE8.out.below HB89.out)).mono ?_); rintro e w10 ⟨g10, rfl, hg10, hk10, hb10⟩; have HK10 := Aside0.mk (OwnBytes.reads hk10 (by omega)); have HB90 := Aside0.mk hb10; have HB10 := Aside0.mk (below_then HB9.out HB9.out.size hb10); have HB810 := Aside0.mk (below_then HB89.out HB89.out.size hb10); clear hg10 hk10 hb10) | (go_at_call 14; refine calls_of_args (args' := #[.slice (some ⟨g9, 0, none⟩) F.length F.length, .slice (some ⟨g10, 0, none⟩) F.length F.length]) (by rw [hFl]) ((same_calls (some ⟨g9, 0, none⟩) F.length F (some ⟨g10, 0, none⟩) F.length F _ (Kd.C_below HK9.out HB90.out) (Nat.le_refl _) HK10.out (Nat.le_refl _) (by omega)).mono ?_); rintro e w11 ⟨rfl, ⟨m11, rfl⟩⟩; rw [decide_eq_true (rfl : F = F)]) | (go_at_call 15; (with_reducible refine (room_calls p F 0 200 _ (HD8.out.below (by repeat (first | exact HB810.out | apply pw_below_drewN | apply below_drew1)))).mono ?_); rintro e w12 ⟨rfl, ⟨m12, rfl⟩⟩) | (go_at_call 15; (with_reducible refine (room_calls q F 0 200 _ (HE8.out.below (by repeat (first | exact HB810.out | apply pw_below_drewN | apply below_drew1)))).mono ?_); rintro e w13 ⟨rfl, ⟨m13, rfl⟩⟩) | (go_at_call 11; (with_reducible refine (awake_calls _).mono ?_); rintro e w14 ⟨rfl, hb14⟩; have HB14 := Aside0.mk (below_then (show Below w.heap.size w _ by repeat (first | exact HB10.out | apply pw_below_drewN | apply below_drew1)) (Below.size (show Below w.heap.size w _ by repeat (first | exact HB10.out | apply pw_below_drewN | apply below_drew1))) hb14); clear hb14))
      go_ret
      exact ⟨rfl, HB14.out⟩
end Go.Proofs.Ytpaphcoloogdlaa.Dk
