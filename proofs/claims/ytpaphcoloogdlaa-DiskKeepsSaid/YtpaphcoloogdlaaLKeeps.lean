/- DiskKeeps, walked. -/
import Derived.Test.YtpaphcoloogdlaaLSafe
namespace Go.Proofs.Ytpaphcoloogdlaa.Dk
open Go.RowKit Go.Proofs.YtpaphcoloogdlaaW.PrintWords Go.Proofs.YtpaphcoloogdlaaW.PrintLast Go.Proofs.YtpaphcoloogdlaaW.PrintMore Go.Proofs.Ytpaphcoloogdlaa.Kit Go.Proofs.Ytpaphcoloogdlaa.PDiskPlays Go.Proofs.Ytpaphcoloogdlaa.Open
set_option linter.unusedVariables false
set_option linter.unusedSimpArgs false
theorem crash_take (b : List Int) (s : Nat) (k t y : Int) (hs : s ≤ b.length) : (crashB b s k t y).take s = b.take s := by
  unfold crashB
  split
  · rw [List.take_set_of_le (by omega), List.take_take]
    congr 1
    omega
  · rw [List.take_take]
    congr 1
    omega
theorem crash_same (b : List Int) (s : Nat) (k t y : Int) (j : Nat) (hj : j < (crashB b s k t y).length) (hne : j ≠ s + t.toNat) (hs : s ≤ b.length) : (crashB b s k t y).getD j 0 = b.getD j 0 := by
  have hl := crashB_len b s k t y hs
  have hjq : j < s + keptN b s k := by omega
  unfold crashB
  simp only [List.getD_eq_getElem?_getD]
  split
  · rw [List.getElem?_set_ne (by omega), List.getElem?_take_of_lt hjq]
  · rw [List.getElem?_take_of_lt hjq]
theorem ob_any {w : World} {g : Nat} {b : List Int} (h : OwnBytes w g b) (hm : b.length ≤ 10000000) : RowX (fun _ => False) w (some ⟨g, 0, none⟩) b.length b :=
  ⟨⟨Nat.le_refl _, h.reads (by omega), fun ad e => by cases e; exact ⟨_, h⟩⟩, fun ad e h => h⟩
theorem DiskAt.fit_ {w : World} {p : Nat} {b : List Int} {s z : Nat} (h : DiskAt w p b s z) : b.length ≤ z := by
  obtain ⟨A, c, h⟩ := h
  exact h.fit
set_option maxHeartbeats 16000000 in
set_option maxRecDepth 100000 in
theorem law_keeps (z : Int) (A0 : Option Addr) (c0 : Nat) (l : List S40) (kk tt yy : Int) (w : World) (hz : (Lit.int .i64 z).wf = true) (hy : (Lit.int .u8 yy).wf = true) (hr0 : Kd.C k40 w A0 l.length l) (hc0 : l.length ≤ c0) (hwf : ∀ x ∈ l, wf40 x) :
    Calls Try.prog 6 #[.int .i64 z, .slice A0 l.length c0, .int .i64 kk, .int .i64 tt, .int .u8 yy] w (TruePost w) := by
  have HR := Aside0.mk hr0
  have m0 := hr0.2.1
  have HY : Aside0 (0 ≤ yy ∧ yy < 256) := ⟨by have := bounds_u8 hy; omega⟩
  clear hr0 hy
  by_cases hzz : z < 0 ∨ 1048576 < z
  · go_enter Try.func6, Try.ntmps6
    go_wp2_with (first | (go_at_call 10; (with_reducible refine (new_none z _ hzz).mono ?_); rintro e w3 ⟨rfl, ⟨m3, rfl⟩⟩) | (go_at_call 11; (with_reducible refine (awake_calls _).mono ?_); rintro e w2 ⟨rfl, hb2⟩; have HB2 := Aside0.mk (below_then (show Below w.heap.size w _ by repeat (first | exact Below.refl _ _ | apply pw_below_drewN | apply below_drew1)) (Below.size (show Below w.heap.size w _ by repeat (first | exact Below.refl _ _ | apply pw_below_drewN | apply below_drew1))) hb2); clear hb2))
    go_ret
    exact ⟨rfl, HB2.out⟩
  · obtain ⟨Z, rfl⟩ : ∃ Z : Nat, z = (Z : Int) := ⟨z.toNat, by omega⟩
    have hZ : Z ≤ 1048576 := by omega
    clear hzz hz
    by_cases hf : fewS l = true
    · have HF := Aside0.mk hf
      have hfw : ∀ x ∈ l, x.f4.length ≤ 100 := (of_decide_eq_true hf).1
      have hl1 : l.length ≤ 100 := (of_decide_eq_true hf).2
      clear hf
      go_enter Try.func6, Try.ntmps6
      go_wp2_with (first | (go_at_call 16; (with_reducible refine (few_calls A0 c0 l _ (Kd.C_below HR.out (show Below w.heap.size w _ by repeat (first | exact HB3.out | apply pw_below_drewN | apply below_drew1))) hc0 (by omega)).mono ?_); rintro e w1 ⟨rfl, hb1⟩; rw [HF.out]; have HB1 := Aside0.mk (below_then (show Below w.heap.size w _ by repeat (first | exact HB3.out | apply pw_below_drewN | apply below_drew1)) (Below.size (show Below w.heap.size w _ by repeat (first | exact HB3.out | apply pw_below_drewN | apply below_drew1))) hb1); have VB1 := Aside0.mk hb1; clear hb1) | (go_at_call 10; (with_reducible refine (new_calls (Z : Int) _ (by omega)).mono ?_); rintro e w3 ⟨p, rfl, hp, hd, hb⟩; have HD3 : Aside0 (DiskAt w3 p [] 0 Z) := ⟨by simpa using hd⟩; have HP := Aside0.mk hp; have HB3 := Aside0.mk hb; clear hd hb hp))
      have HST := Aside0.mk (HD3.out.below VB1.out)
      go_loopw [31] (fun i wr => ∃ (k : Nat) (b : List Int) (s : Nat), i = .int .i64 k ∧ k ≤ l.length ∧ Aside0 (DiskAt wr p b s Z) ∧ Aside0 (Below w.heap.size w wr)) (fun i _ => l.length - (intOf i).toNat)
      case atStart => exact ⟨0, [], 0, rfl, by omega, ⟨HST.out.below (by repeat (first | exact Below.refl _ _ | apply pw_below_drewN | apply below_drew1))⟩, ⟨by repeat (first | exact HB1.out | apply pw_below_drewN | apply below_drew1)⟩⟩
      case round =>
        obtain ⟨k, b, s, rfl, hk, HD, HB⟩ := hrel
        by_cases hlt : k < l.length
        · obtain ⟨x, hx⟩ : ∃ x, l[k]? = some x := ⟨_, List.getElem?_eq_getElem hlt⟩
          have hxm : x ∈ l := List.mem_of_getElem? hx
          rcases hsd : stD x b s Z with ⟨b', s', eD⟩
          have HSD := Aside0.mk hsd
          have HW : Aside0 (x.f4.length ≤ 100 ∧ 0 ≤ x.f3 ∧ x.f3 < 256) := ⟨hfw x hxm, by have := bounds_u8 (hwf x hxm).2.2.2.1; omega⟩
          obtain ⟨ad, A5, c5, e0, t0, t1, t2, t3, t4, hl5, hC5⟩ := at_do (Kd.C_below HR.out HB.out) k x hx
          subst e0
          have HC5 := Aside0.mk hC5
          have j1 : (k : Int) < (l.length : Int) := by omega
          clear hsd hC5 hx hxm
          go_wp2_with (first | (go_at_call 18; (refine (does_calls p b s Z _ [] [] 0 _ x _ (HD.out.below (below_alloc (Below.refl _ _) _)) (RfX.zero _ _) (k40_mk _ x hl5 (Kd.C_below HC5.out (below_alloc (Below.refl _ _) _))) HW.out.1 HW.out.2).mono ?_); rintro e w8 ⟨v8, rfl, hd8, hr8, hg8⟩; rw [HSD.out] at hd8; simp only at hd8; have HD8 := Aside0.mk hd8; have hbx := below_thenR (Nat.le_refl _) HB.out (below_alloc (Below.refl _ _) (.cells #[.int .i64 x.f0, .int .i64 x.f1, .int .i64 x.f2, .int .u8 x.f3, .slice A5 x.f4.length c5] 40)); have HB8 := Aside0.mk (below_gb hbx hbx.size hg8 HP.out); clear hd8 hr8 hg8 hbx))
          go_roundw
          case rel => exact ⟨k + 1, b', s', by go_num, by omega, ⟨HD8.out⟩, ⟨HB8.out⟩⟩
          case measure =>
            simp [intOf]
            omega
        · have hke : k = l.length := by omega
          subst hke
          have hsb := HD.out.safe_le
          have hbz := HD.out.fit_
          obtain ⟨B, hB⟩ : ∃ B, crashB b s kk tt yy = B := ⟨_, rfl⟩
          have hcl := crashB_len b s kk tt yy hsb
          have hct := crash_take b s kk tt yy hsb
          have hcs := fun j => crash_same b s kk tt yy j
          rw [hB] at hcl hct
          simp only [hB] at hcs
          have HBQ := Aside0.mk hB
          have HTK := Aside0.mk hct
          have HCS := Aside0.mk hcs
          have hBb : B.length ≤ b.length := by omega
          have hsB : s ≤ B.length := by omega
          have HLT2 : Aside0 ((B.take s).length ≤ 10000000) := ⟨by simp; omega⟩
          have q1 : decide ((b.length : Int) < (B.length : Int)) = false := decide_eq_false (by omega)
          have q2 : decide (b.length < B.length) = false := decide_eq_false (by omega)
          have q3 : decide ((B.length : Int) < (s : Int)) = false := decide_eq_false (by omega)
          have q4 : decide (B.length < s) = false := decide_eq_false (by omega)
          clear hB hcl hct hcs
          go_wp2_with (first | (go_at_call 13; have hh := HD12.out; (with_reducible refine (bytes_calls p B _ Z _ HD12.out).mono ?_); rintro e w13 ⟨g16, rfl, hg13, hk13, hb13⟩; have HK13 := Aside0.mk hk13; have HX13 := Aside0.mk (HK12.out.below hb13); have HD13 := Aside0.mk (HD12.out.below hb13); have HB13 := Aside0.mk (below_thenR (Nat.le_refl _) HB12.out hb13); clear hg13 hk13 hb13) | (go_at_call 13; (with_reducible refine (bytes_calls p b s Z _ HD.out).mono ?_); rintro e w10 ⟨g14, rfl, hg10, hk10, hb10⟩; have HG10 := Aside0.mk (Nat.le_trans HB.out.size hg10); have HK10 := Aside0.mk hk10; have HD10 := Aside0.mk (HD.out.below hb10); have HB10 := Aside0.mk (below_thenR (Nat.le_refl _) HB.out hb10); have HNP : Aside0 (g14 ≠ p) := ⟨by have := HD.out.lt; omega⟩; clear hg10 hk10 hb10) | (go_at_call 20; (with_reducible refine (safe_calls p b s Z _ HD10.out).mono ?_); rintro e w11 ⟨rfl, ⟨m11, rfl⟩⟩) | (go_at_call 21; (with_reducible refine (crash_calls p b s Z kk tt yy _ (HD10.out.below (pw_below_drewN (Below.refl _ _) m11)) HY.out).mono ?_); rintro e w12 ⟨rfl, hd12, hg12⟩; rw [HBQ.out] at hd12; have HD12 := Aside0.mk hd12; have HK12 : Aside0 (OwnBytes w12 g14 b) := Aside0.mk ((hg12.block g14 (blk_lt (HK10.out.below (pw_below_drewN (Below.refl _ _) m11))) (fun e => by injection e with e; exact HNP.out e)).trans (HK10.out.below (pw_below_drewN (Below.refl _ _) m11))); have HB12 := Aside0.mk (below_gb (pw_below_drewN HB10.out m11) (pw_below_drewN HB10.out m11).size hg12 HP.out); clear hd12 hg12))
          obtain ⟨A21, hsl1, hr21⟩ := cut_hx (ob_any HK13.out (by omega)) s hsB
          obtain ⟨A22, hsl2, hr22⟩ := cut_hx (ob_any HX13.out (by omega)) s hsb
          have HR21 := Aside0.mk hr21.any
          have HR22 := Aside0.mk hr22.any
          have e1 : (B.take s).length = s := by simp; omega
          have e2 : (b.take s).length = s := by simp; omega
          clear hr21 hr22
          go_region_held3 (fun _ => True) (first | trivial | (intros; trivial)) (first | (go_at_call 14; refine calls_of_args (args' := #[.slice A21 (B.take s).length B.length, .slice A22 (b.take s).length b.length]) (by rw [e1, e2]) ((same_calls A21 B.length (B.take s) A22 b.length (b.take s) _ ?hS ?hT ?hU ?hV ?hW).mono ?_); (case hS => refine Kd.C_below HR21.out.2.1 ?_; repeat (first | exact Below.refl _ _ | apply pw_below_drewN | apply below_drew1)); (case hT => exact HR21.out.1); (case hU => refine Kd.C_below HR22.out.2.1 ?_; repeat (first | exact Below.refl _ _ | apply pw_below_drewN | apply below_drew1)); (case hV => exact HR22.out.1); (case hW => exact HLT2.out); rintro e w14 ⟨rfl, ⟨m14, rfl⟩⟩; rw [decide_eq_true HTK.out]) | (go_at_call 20; (with_reducible refine (safe_calls p B B.length Z _ ?hX).mono ?_); (case hX => refine HD13.out.below ?_; repeat (first | exact Below.refl _ _ | apply pw_below_drewN | apply below_drew1)); rintro e w15 ⟨rfl, ⟨m15, rfl⟩⟩))
          go_wp2
          go_loopw [17, 18] (fun tn i wr => ∃ u c : Nat, i = .int .i64 u ∧ s ≤ u ∧ u ≤ B.length ∧ tn = .int .i64 c ∧ c ≤ 1 ∧ (c = 1 → s + tt.toNat < u) ∧ Aside0 (OwnBytes wr g16 B) ∧ Aside0 (OwnBytes wr g14 b) ∧ Aside0 (Below w.heap.size w wr)) (fun _ i _ => B.length - (intOf i).toNat)
          case atStart => exact ⟨s, 0, rfl, Nat.le_refl _, hsB, rfl, by omega, fun h => by omega, ⟨HK13.out.below (show Below w13.heap.size w13 _ by repeat (first | exact Below.refl _ _ | apply pw_below_drewN | apply below_drew1))⟩, ⟨HX13.out.below (show Below w13.heap.size w13 _ by repeat (first | exact Below.refl _ _ | apply pw_below_drewN | apply below_drew1))⟩, ⟨by repeat (first | exact HB13.out | apply pw_below_drewN | apply below_drew1)⟩⟩
          case round =>
            obtain ⟨u, c, rfl, hu1, hu2, rfl, hc1, hc2, HN, HO, HB2'⟩ := hrel
            by_cases hul : u < B.length
            · have y0 := ob_cell HN.out u hul
              have y1 := ob_cell HO.out u (by omega)
              obtain ⟨v1, hv1⟩ : ∃ v1, B.getD u 0 = v1 := ⟨_, rfl⟩
              obtain ⟨v2, hv2⟩ : ∃ v2, b.getD u 0 = v2 := ⟨_, rfl⟩
              rw [hv1] at y0
              rw [hv2] at y1
              have hcsu : v1 ≠ v2 → u = s + tt.toNat := fun hd => Classical.byContradiction fun hne => hd (by rw [← hv1, ← hv2]; exact HCS.out u hul hne hsb)
              have HCSU := Aside0.mk hcsu
              clear hv1 hv2 hcsu
              have j1 : (u : Int) < (B.length : Int) := by omega
              have j2 : (u : Int) < (b.length : Int) := by omega
              by_cases hsame : v1 = v2
              · have d5 : (v1 != v2) = false := by rw [hsame]; simp
                clear hsame
                go_wp2
                go_quiet (fail)
                go_wp2
                refine ⟨⟨u + 1, c, by go_num, by omega, by omega, rfl, by omega, fun h => by have := hc2 h; omega, ⟨HN.out.below (by repeat (first | exact Below.refl _ _ | apply pw_below_drewN | apply below_drew1))⟩, ⟨HO.out.below (by repeat (first | exact Below.refl _ _ | apply pw_below_drewN | apply below_drew1))⟩, ⟨by repeat (first | exact HB2'.out | apply pw_below_drewN | apply below_drew1)⟩⟩, ?_⟩
                simp [intOf]
                omega
              · have d5 : (v1 != v2) = true := by simpa using hsame
                have hut : u = s + tt.toNat := HCSU.out hsame
                have hc0 : c = 0 := by omega
                subst hc0
                have HUT := Aside0.mk hut
                clear hsame hut hc2
                go_wp2
                go_quiet (fail)
                go_wp2
                refine ⟨⟨u + 1, 1, by go_num, by omega, by omega, by first | rfl | (simp; done) | go_num, by omega, fun _ => by have := HUT.out; omega, ⟨HN.out.below (by repeat (first | exact Below.refl _ _ | apply pw_below_drewN | apply below_drew1))⟩, ⟨HO.out.below (by repeat (first | exact Below.refl _ _ | apply pw_below_drewN | apply below_drew1))⟩, ⟨by repeat (first | exact HB2'.out | apply pw_below_drewN | apply below_drew1)⟩⟩, ?_⟩
                simp [intOf]
                omega
            · have d5 : decide ((c : Int) ≤ 1) = true := decide_eq_true (by omega)
              have d6 : decide (c ≤ 1) = true := decide_eq_true (by omega)
              have j1 : ¬ (u : Int) < (B.length : Int) := by omega
              have hub : u = B.length := by omega
              subst hub
              go_wp2_with (go_at_call 11; (with_reducible refine (awake_calls _).mono ?_); rintro e w2 ⟨rfl, hb2⟩; have HB2 := Aside0.mk (below_then (show Below w.heap.size w _ by repeat (first | exact HB2'.out | apply pw_below_drewN | apply below_drew1)) (Below.size (show Below w.heap.size w _ by repeat (first | exact HB2'.out | apply pw_below_drewN | apply below_drew1))) hb2); clear hb2)
              go_ret
              exact ⟨rfl, HB2.out⟩
    · have hf0 : fewS l = false := by simpa using hf
      have HF := Aside0.mk hf0
      clear hf hf0
      go_enter Try.func6, Try.ntmps6
      go_wp2_with (first | (go_at_call 16; (with_reducible refine (few_calls A0 c0 l _ (Kd.C_below HR.out (show Below w.heap.size w _ by repeat (first | exact HB3.out | apply pw_below_drewN | apply below_drew1))) hc0 (by omega)).mono ?_); rintro e w1 ⟨rfl, hb1⟩; rw [HF.out]; have HB1 := Aside0.mk (below_then (show Below w.heap.size w _ by repeat (first | exact HB3.out | apply pw_below_drewN | apply below_drew1)) (Below.size (show Below w.heap.size w _ by repeat (first | exact HB3.out | apply pw_below_drewN | apply below_drew1))) hb1); have VB1 := Aside0.mk hb1; clear hb1) | (go_at_call 10; (with_reducible refine (new_calls (Z : Int) _ (by omega)).mono ?_); rintro e w3 ⟨p, rfl, hp, hd, hb⟩; have HD3 : Aside0 (DiskAt w3 p [] 0 Z) := ⟨by simpa using hd⟩; have HP := Aside0.mk hp; have HB3 := Aside0.mk hb; clear hd hb hp) | (go_at_call 11; (with_reducible refine (awake_calls _).mono ?_); rintro e w2 ⟨rfl, hb2⟩; have HB2 := Aside0.mk (below_then (show Below w.heap.size w _ by repeat (first | exact HB1.out | apply pw_below_drewN | apply below_drew1)) (Below.size (show Below w.heap.size w _ by repeat (first | exact HB1.out | apply pw_below_drewN | apply below_drew1))) hb2); clear hb2))
      go_ret
      exact ⟨rfl, HB2.out⟩
end Go.Proofs.Ytpaphcoloogdlaa.Dk
