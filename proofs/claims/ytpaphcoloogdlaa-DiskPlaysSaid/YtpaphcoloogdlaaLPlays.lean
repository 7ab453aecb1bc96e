/- DiskPlays, walked. -/
import Derived.Test.YtpaphcoloogdlaaLRel
namespace Go.Proofs.Ytpaphcoloogdlaa.Dk
open Go.RowKit Go.Proofs.YtpaphcoloogdlaaW.PrintWords Go.Proofs.YtpaphcoloogdlaaW.PrintLast Go.Proofs.YtpaphcoloogdlaaW.PrintMore Go.Proofs.Ytpaphcoloogdlaa.Kit Go.Proofs.Ytpaphcoloogdlaa.PDiskPlays Go.Proofs.Ytpaphcoloogdlaa.Open
set_option linter.unusedVariables false
set_option linter.unusedSimpArgs false
set_option maxHeartbeats 8000000 in
set_option maxRecDepth 100000 in
theorem law_plays (z : Int) (A0 : Option Addr) (c0 : Nat) (l : List S40) (w : World) (hz : (Lit.int .i64 z).wf = true) (hr0 : Kd.C k40 w A0 l.length l) (hc0 : l.length ≤ c0) (hwf : ∀ x ∈ l, wf40 x) :
    Calls Try.prog 5 #[.int .i64 z, .slice A0 l.length c0] w (TruePost w) := by
  have HR := Aside0.mk hr0
  have m0 := hr0.2.1
  have hlm : c0 ≤ c0 := Nat.le_refl _
  clear hr0
  by_cases hf : fewS l = true
  · have HF := Aside0.mk hf
    have hfw : ∀ x ∈ l, x.f4.length ≤ 100 := (of_decide_eq_true hf).1
    have hl1 : l.length ≤ 100 := (of_decide_eq_true hf).2
    clear hf
    by_cases hzz : z < 0 ∨ 1048576 < z
    · go_enter Try.func5, Try.ntmps5
      go_wp2_with (first | (go_at_call 16; (with_reducible refine (few_calls A0 c0 l _ HR.out hc0 (by omega)).mono ?_); rintro e w1 ⟨rfl, hb1⟩; rw [HF.out]; have HB1 := Aside0.mk hb1; clear hb1) | (go_at_call 10; (with_reducible refine (new_none z _ hzz).mono ?_); rintro e w3 ⟨rfl, ⟨m3, rfl⟩⟩) | (go_at_call 17; (with_reducible refine (rnew_any z _).mono ?_); rintro e w4 ⟨A4, c4, A4', c4', rfl, hr4, hb4⟩; rw [decide_eq_false (show ¬ (0 ≤ z ∧ z ≤ 1048576) by omega)]; have HB4 := Aside0.mk (below_then (show Below w.heap.size w _ by repeat (first | exact HB1.out | apply pw_below_drewN | apply below_drew1)) (Below.size (show Below w.heap.size w _ by repeat (first | exact HB1.out | apply pw_below_drewN | apply below_drew1))) hb4); clear hr4 hb4) | (go_at_call 11; (with_reducible refine (awake_calls _).mono ?_); rintro e w2 ⟨rfl, hb2⟩; have HB2 := Aside0.mk (below_then (show Below w.heap.size w _ by repeat (first | exact (HB4.out.alloc HB4.out.size _) | apply pw_below_drewN | apply below_drew1)) (Below.size (show Below w.heap.size w _ by repeat (first | exact (HB4.out.alloc HB4.out.size _) | apply pw_below_drewN | apply below_drew1))) hb2); clear hb2))
      go_ret
      exact ⟨rfl, HB2.out⟩
    · obtain ⟨Z, rfl⟩ : ∃ Z : Nat, z = (Z : Int) := ⟨z.toNat, by omega⟩
      have hZ : Z ≤ 1048576 := by omega
      clear hzz hz
      go_enter Try.func5, Try.ntmps5
      go_wp2_with (first | (go_at_call 16; (with_reducible refine (few_calls A0 c0 l _ HR.out hc0 (by omega)).mono ?_); rintro e w1 ⟨rfl, hb1⟩; rw [HF.out]; have HB1 := Aside0.mk hb1; clear hb1) | (go_at_call 10; (with_reducible refine (new_calls (Z : Int) _ (by omega)).mono ?_); rintro e w3 ⟨p, rfl, hp, hd, hb⟩; have HD3 : Aside0 (DiskAt w3 p [] 0 Z) := ⟨by simpa using hd⟩; have HP := Aside0.mk (Nat.le_trans (show w.heap.size ≤ _ from Below.size (show Below w.heap.size w _ by repeat (first | exact HB1.out | apply pw_below_drewN | apply below_drew1))) hp); have HB3 := Aside0.mk (below_then (show Below w.heap.size w _ by repeat (first | exact HB1.out | apply pw_below_drewN | apply below_drew1)) (Below.size (show Below w.heap.size w _ by repeat (first | exact HB1.out | apply pw_below_drewN | apply below_drew1))) hb); clear hd hb hp) | (go_at_call 17; (with_reducible refine (rnew_any (Z : Int) _).mono ?_); rintro e w4 ⟨A4, c4, A4', c4', rfl, hr4, hb4⟩; rw [decide_eq_true (show (0 ≤ (Z : Int) ∧ (Z : Int) ≤ 1048576) by omega)]; have HR4 : Aside0 (Rf w4 (.agg #[.slice A4 0 c4, .slice A4' 0 c4', .int .i64 (Z : Int)]) [] [] Z) := ⟨by simpa using hr4 ⟨by omega, by omega⟩⟩; have HB4 := Aside0.mk (below_thenR (Nat.le_refl _) HB3.out hb4); have HD4 := Aside0.mk (HD3.out.below hb4); clear hr4 hb4))
      obtain ⟨gr, hgr⟩ : ∃ gr, gr = w4.heap.size := ⟨_, rfl⟩
      have HGR : Aside0 (w.heap.size ≤ gr ∧ gr ≠ p) := ⟨by have := HB4.out.size; have := HD4.out.lt; omega⟩
      rw [← hgr]
      have HST : Aside0 (DiskAt (w4.alloc (.cells #[.slice A4 0 c4, .slice A4' 0 c4', .int .i64 (Z : Int)] 36)) p [] 0 Z ∧ RefAt (w4.alloc (.cells #[.slice A4 0 c4, .slice A4' 0 c4', .int .i64 (Z : Int)] 36)) gr [] [] Z ∧ Below w.heap.size w (w4.alloc (.cells #[.slice A4 0 c4, .slice A4' 0 c4', .int .i64 (Z : Int)] 36))) :=
        ⟨HD4.out.below (below_alloc (Below.refl _ _) _), ⟨_, _, _, HR4.out.below (below_alloc (Below.refl _ _) _), by rw [hgr]; exact blk_new _ _⟩, below_thenR (Nat.le_refl _) HB4.out (below_alloc (Below.refl _ _) _)⟩
      clear hgr
      go_loopw [40] (fun i wr => ∃ (k : Nat) (b : List Int) (s : Nat) (S L : List Int), i = .int .i64 k ∧ k ≤ l.length ∧ Rel b s S L Z ∧ Aside0 (DiskAt wr p b s Z) ∧ Aside0 (RefAt wr gr S L Z) ∧ Aside0 (Below w.heap.size w wr)) (fun i _ => l.length - (intOf i).toNat)
      case atStart => exact ⟨0, [], 0, [], [], rfl, by omega, ⟨rfl, rfl, by simp⟩, ⟨HST.out.1⟩, ⟨HST.out.2.1⟩, ⟨HST.out.2.2⟩⟩
      case round =>
        obtain ⟨k, b, s, S, L, rfl, hk, hrel', HD, HF2, HB⟩ := hrel
        by_cases hlt : k < l.length
        · obtain ⟨x, hx⟩ : ∃ x, l[k]? = some x := ⟨_, List.getElem?_eq_getElem hlt⟩
          have hxm : x ∈ l := List.mem_of_getElem? hx
          rcases hsd : stD x b s Z with ⟨b', s', eD⟩
          rcases hsr : stR x S L Z with ⟨S', L', eR⟩
          obtain ⟨hs1, hs2⟩ := step_rel x b s Z S L hrel'
          rw [hsd, hsr] at hs1 hs2
          simp only at hs1 hs2
          obtain ⟨hbe', hss', hbz'⟩ := hs1
          subst hss'
          have HBE := Aside0.mk hbe'
          have HSD := Aside0.mk hsd
          subst hs2
          have HW : Aside0 (x.f4.length ≤ 100 ∧ 0 ≤ x.f3 ∧ x.f3 < 256) := ⟨hfw x hxm, by have := bounds_u8 (hwf x hxm).2.2.2.1; omega⟩
          have HSR := Aside0.mk hsr
          obtain ⟨ad, A5, c5, e0, t0, t1, t2, t3, t4, hl5, hC5⟩ := at_do (Kd.C_below HR.out HB.out) k x hx
          subst e0
          have HC5 := Aside0.mk hC5
          obtain ⟨A6, c6, A6', c6', hr6, hb6⟩ := HF2.out.open_
          have HR6 := Aside0.mk hr6
          have HB6 := Aside0.mk hb6
          have hb6a := blk_below hb6 (below_alloc (Below.refl _ _) (.cells #[.int .i64 x.f0, .int .i64 x.f1, .int .i64 x.f2, .int .u8 x.f3, .slice A5 x.f4.length c5] 40))
          have x0 := (blk_cell hb6a 0).trans rfl
          have x1 := (blk_cell hb6a 1).trans rfl
          have x2 := (blk_cell hb6a 2).trans rfl
          have j1 : (k : Int) < (l.length : Int) := by omega
          have ne1 : ¬ gr = wr.heap.size := by have := blk_lt hb6; omega
          have ne2 : ¬ wr.heap.size = gr := fun e => ne1 e.symm
          clear hsd hsr hbe' hC5 hr6 hb6 hb6a hx hxm hrel'
          go_wp2_with (first | (go_at_call 18; (refine (does_calls p b s Z _ S L Z _ x _ (HD.out.below (below_alloc (Below.refl _ _) _)) (HR6.out.below (below_alloc (Below.refl _ _) _)) (k40_mk _ x hl5 (Kd.C_below HC5.out (below_alloc (Below.refl _ _) _))) HW.out.1 HW.out.2).mono ?_); rintro e w8 ⟨v8, rfl, hd8, hr8, hg8⟩; rw [HSD.out] at hd8 ⊢; rw [HSR.out] at hr8 ⊢; simp only at hd8 hr8 ⊢; rw [show (eR == eR) = true by simp]; have HD8 := Aside0.mk hd8; have HR8 := Aside0.mk hr8; obtain ⟨A8, c8, A8', c8', ev8, _⟩ := hr8; subst ev8; have HK8 := Aside0.mk (blk_below ((hg8.block gr (by have := blk_lt HB6.out; simp; omega) (fun e => by injection e with e; exact HGR.out.2 e)).trans (blk_below HB6.out (below_alloc (Below.refl _ _) _))) (below_alloc (Below.refl _ _) (.cells #[.slice A8 S'.length c8, .slice A8' L'.length c8', .int .i64 (Z : Int)] 36))); have HB8 := Aside0.mk (below_thenR (Nat.le_refl _) (below_gb (below_thenR (Nat.le_refl _) HB.out (below_alloc (Below.refl _ _) _)) (below_thenR (Nat.le_refl _) HB.out (below_alloc (Below.refl _ _) _)).size hg8 HP.out) (below_alloc (Below.refl _ _) (.cells #[.slice A8 S'.length c8, .slice A8' L'.length c8', .int .i64 (Z : Int)] 36))); have y0 := (blk_cell HK8.out 0).trans rfl; have y1 := (blk_cell HK8.out 1).trans rfl; have y2 := (blk_cell HK8.out 2).trans rfl; have g0 := blk_frozen HK8.out 0; have g1 := blk_frozen HK8.out 1; have g2 := blk_frozen HK8.out 2; have HK9 := Aside0.mk (blk_put (blk_put (blk_put HK8.out 0 (.slice A8 S'.length c8) rfl) 1 (.slice A8' L'.length c8') rfl) 2 (.int .i64 (Z : Int)) rfl); have HF9 := Aside0.mk (fin3 (.slice A8 S'.length c8) (.slice A8' L'.length c8') (.int .i64 (Z : Int)) (HD8.out.below (below_alloc (Below.refl _ _) _)) (HR8.out.below (below_alloc (Below.refl _ _) _)) (grown_of_below HB8.out (some p)) HK8.out HGR.out.1 HGR.out.2); have HB9 := Aside0.mk (below_set (below_set (below_set HB8.out HGR.out.1 0 (.slice A8 S'.length c8)) HGR.out.1 1 (.slice A8' L'.length c8')) HGR.out.1 2 (.int .i64 (Z : Int))); have z0 := (blk_cell HK9.out 0).trans rfl; have z1 := (blk_cell HK9.out 1).trans rfl; have z2 := (blk_cell HK9.out 2).trans rfl; clear hd8 hg8) | (go_at_call 19; (refine (is_calls p b' Z _ S' L' _ HF9.out.1 HF9.out.2.1 HBE.out).mono ?_); rintro e w9 ⟨rfl, hb9⟩; have HX9 := Aside0.mk (And.intro (HF9.out.1.below hb9) (And.intro (RefAt.below ⟨_, _, _, HF9.out.2.1, HF9.out.2.2.2⟩ hb9) (below_thenR (Nat.le_refl _) HB9.out hb9))); clear hb9))
          go_roundw
          case rel => exact ⟨k + 1, b', S'.length, S', L', by go_num, by omega, ⟨HBE.out, rfl, hbz'⟩, ⟨HX9.out.1⟩, ⟨HX9.out.2.1⟩, ⟨HX9.out.2.2⟩⟩
          case measure =>
            simp [intOf]
            omega
        · have hke : k = l.length := by omega
          subst hke
          go_wp2_with (go_at_call 11; (with_reducible refine (awake_calls _).mono ?_); rintro e w2 ⟨rfl, hb2⟩; have HB2 := Aside0.mk (below_then (show Below w.heap.size w _ by repeat (first | exact HB.out | apply pw_below_drewN | apply below_drew1)) (Below.size (show Below w.heap.size w _ by repeat (first | exact HB.out | apply pw_below_drewN | apply below_drew1))) hb2); clear hb2)
          go_ret
          exact ⟨rfl, HB2.out⟩
  · have hf0 : fewS l = false := by simpa using hf
    have HF := Aside0.mk hf0
    clear hf hf0
    go_enter Try.func5, Try.ntmps5
    go_wp2_with (first | (go_at_call 16; (with_reducible refine (few_calls A0 c0 l _ HR.out hc0 (by omega)).mono ?_); rintro e w1 ⟨rfl, hb1⟩; rw [HF.out]; have HB1 := Aside0.mk hb1; clear hb1) | (go_at_call 11; (with_reducible refine (awake_calls _).mono ?_); rintro e w2 ⟨rfl, hb2⟩; have HB2 := Aside0.mk (below_then (show Below w.heap.size w _ by repeat (first | exact HB1.out | apply pw_below_drewN | apply below_drew1)) (Below.size (show Below w.heap.size w _ by repeat (first | exact HB1.out | apply pw_below_drewN | apply below_drew1))) hb2); clear hb2))
    go_ret
    exact ⟨rfl, HB2.out⟩
end Go.Proofs.Ytpaphcoloogdlaa.Dk
