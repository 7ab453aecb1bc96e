/- DiskCopies, walked. -/
import Derived.Test.YtpaphcoloogdlaaLRel
import Derived.StillTailTactics
namespace Go.Proofs.Ytpaphcoloogdlaa.Dk
open Go.RowKit Go.Proofs.YtpaphcoloogdlaaW.PrintWords Go.Proofs.YtpaphcoloogdlaaW.PrintLast Go.Proofs.YtpaphcoloogdlaaW.PrintMore Go.Proofs.Ytpaphcoloogdlaa.Kit Go.Proofs.Ytpaphcoloogdlaa.PDiskPlays Go.Proofs.Ytpaphcoloogdlaa.Open
set_option linter.unusedVariables false
set_option linter.unusedSimpArgs false
theorem elem33 : Try.prog.elem 33 = 40 := by kernel_rfl
theorem sizeOf40 (u : World) : (sizeOf 40).run Try.prog u = .ok 5 u := by kernel_rfl
theorem cut40_h {w : World} {A : Option Addr} {c : Nat} {l : List S40} (hC : Kd.C k40 w A l.length l) (hc : l.length ≤ c) (n : Nat) (hn : n ≤ l.length) :
    ∃ A', (∀ u, (Instr.slice 33 (.slice A l.length c) none (some (.int .i64 (n : Int))) none).run Try.prog u = .ok (.slice A' n c) u) ∧ Kd.C k40 w A' (l.take n).length (l.take n) := by
  have h1 := Kd.C_take hC hn
  have hlen : (l.take n).length = n := by simp; omega
  have h2 := Kd.C_drop (c := c) h1 (show 0 ≤ (l.take n).length by omega) (by omega)
  refine ⟨_, fun u => ?_, h2⟩
  rw [run_slice_h (w := u) (t := 33) (a := A) (len := l.length) (cap := c) (by rw [elem33]; exact Try.underlying33) .i64 _ (by omega) (by omega), elem33, sizeOf40]
  simp only [Result.andThen, sliced, Int.toNat_natCast, Nat.sub_zero]
  rfl
theorem cut40_l {w : World} {A : Option Addr} {c : Nat} {l : List S40} (hC : Kd.C k40 w A l.length l) (hc : l.length ≤ c) (n : Nat) (hn : n ≤ l.length) :
    ∃ A', (∀ u, (Instr.slice 33 (.slice A l.length c) (some (.int .i64 (n : Int))) none none).run Try.prog u = .ok (.slice A' (l.length - n) (c - n)) u) ∧ Kd.C k40 w A' (l.drop n).length (l.drop n) := by
  have h2 := Kd.C_drop hC hn hc
  refine ⟨_, fun u => ?_, h2⟩
  rw [run_slice_l (w := u) (t := 33) (a := A) (len := l.length) (cap := c) (by rw [elem33]; exact Try.underlying33) .i64 _ (by omega) (by omega), elem33, sizeOf40]
  simp only [Result.andThen, sliced, Int.toNat_natCast]
  rfl
theorem RefAt.set {w : World} {g g2 : Nat} {S L : List Int} {z : Nat} {cs : Array Value} (h : RefAt w g S L z) (hb : w.heap[g2]? = some (.cells cs 36 (0, 0))) (hne : g ≠ g2) (j : Nat) (v : Value) : RefAt (w.setCell ⟨g2, j, none⟩ v) g S L z := by
  obtain ⟨v0, v1, v2, h1, h2⟩ := h
  exact ⟨v0, v1, v2, h1.set hb (by decide) j v, blk_far h2 (p := ⟨g2, j, none⟩) hne v⟩
theorem RefAt.disk {w w1 : World} {g p : Nat} {S L : List Int} {z : Nat} {b : List Int} {s zz : Nat} (h : RefAt w g S L z) (hd : DiskAt w p b s zz) (hg : w.grownBy w1 (some p)) (hne : g ≠ p) : RefAt w1 g S L z := by
  obtain ⟨v0, v1, v2, h1, h2⟩ := h
  exact ⟨v0, v1, v2, h1.at_disk hd hg, (hg.block g (blk_lt h2) (fun e => by injection e with e; exact hne e)).trans h2⟩
/-- A step of one pair, and what it leaves of another one. -/
theorem pair_next {W5 w8 : World} {p q gr gc : Nat} {b bq S L : List Int} {s sq z : Nat} {a0 a1 a2 : Value} (v0 v1 v2 : Value) (hd : DiskAt W5 p b s z) (hq : DiskAt W5 q bq sq z) (hc : RefAt W5 gc S L z) (hg : W5.grownBy w8 (some p)) (hb : w8.heap[gr]? = some (.cells #[a0, a1, a2] 36 (0, 0)))
    (h1 : p ≠ q) (h2 : gc ≠ p) (h3 : gr ≠ q) (h4 : gc ≠ gr) :
    DiskAt (((w8.setCell ⟨gr, 0, none⟩ v0).setCell ⟨gr, 1, none⟩ v1).setCell ⟨gr, 2, none⟩ v2) q bq sq z ∧ RefAt (((w8.setCell ⟨gr, 0, none⟩ v0).setCell ⟨gr, 1, none⟩ v1).setCell ⟨gr, 2, none⟩ v2) gc S L z := by
  have hq8 := hq.other hd hg h1
  have hc8 := hc.disk hd hg h2
  have q3 := blk_put hb 0 v0 rfl
  have q4 := blk_put q3 1 v1 rfl
  exact ⟨((hq8.set hb (by decide) h3 _ _).set q3 (by decide) h3 _ _).set q4 (by decide) h3 _ _, ((hc8.set hb h4 _ _).set q3 h4 _ _).set q4 h4 _ _⟩
theorem val_ {P : Program} {ops : Array Oper} {oi : Oper} {N : Option Tmp} {a : Act} {w w1 : World} {v : Value} {K : Act → World → Prop} {Q : Exit → Act → World → Prop} (hw : Region.wanted oi (yielded ops a.tmps) = true) (hN : oi.dst = N) (hrun : (execOp a.eval oi).run P w = .ok (.value v) w1)
    (h : K (a.put N v) w1) : if Region.wanted oi (yielded ops a.tmps) = true then Oper.wp P oi a w K Q else K (a.put N undef) w := by
  rw [if_pos hw]
  unfold Oper.wp
  rw [hrun]
  subst hN
  exact h
set_option maxHeartbeats 16000000 in
set_option maxRecDepth 100000 in
theorem law_copies (z : Int) (A0 : Option Addr) (c0 : Nat) (l : List S40) (aa : Int) (w : World) (hz : (Lit.int .i64 z).wf = true) (ha : (Lit.int .u8 aa).wf = true) (hr0 : Kd.C k40 w A0 l.length l) (hc0 : l.length ≤ c0) (hwf : ∀ x ∈ l, wf40 x) :
    Calls Try.prog 8 #[.int .i64 z, .slice A0 l.length c0, .int .u8 aa] w (TruePost w) := by
  have HR := Aside0.mk hr0
  have m0 := hr0.2.1
  by_cases hf : fewS l = true
  · have HF := Aside0.mk hf
    have hfw : ∀ x ∈ l, x.f4.length ≤ 100 := (of_decide_eq_true hf).1
    have hl1 : l.length ≤ 100 := (of_decide_eq_true hf).2
    clear hf
    by_cases hzz : z < 0 ∨ 1048576 < z
    · clear hr0
      go_enter Try.func8, Try.ntmps8
      go_wp2_with (first | (go_at_call 16; (with_reducible refine (few_calls A0 c0 l _ HR.out hc0 (by omega)).mono ?_); rintro e w1 ⟨rfl, hb1⟩; rw [HF.out]; have HB1 := Aside0.mk hb1; clear hb1) | (go_at_call 10; (with_reducible refine (new_none z _ hzz).mono ?_); rintro e w3 ⟨rfl, ⟨m3, rfl⟩⟩) | (go_at_call 17; (with_reducible refine (rnew_any z _).mono ?_); rintro e w4 ⟨A4, c4, A4', c4', rfl, hr4, hb4⟩; rw [decide_eq_false (show ¬ (0 ≤ z ∧ z ≤ 1048576) by omega)]; have HB4 := Aside0.mk (below_then (show Below w.heap.size w _ by repeat (first | exact HB1.out | apply pw_below_drewN | apply below_drew1)) (Below.size (show Below w.heap.size w _ by repeat (first | exact HB1.out | apply pw_below_drewN | apply below_drew1))) hb4); clear hr4 hb4) | (go_at_call 22; (with_reducible refine (copy_nil _).mono ?_); rintro e w5 ⟨rfl, ⟨m5, rfl⟩⟩) | (go_at_call 11; (with_reducible refine (awake_calls _).mono ?_); rintro e w2 ⟨rfl, hb2⟩; have HB2 := Aside0.mk (below_then (show Below w.heap.size w _ by repeat (first | exact (HB4.out.alloc HB4.out.size _) | apply pw_below_drewN | apply below_drew1)) (Below.size (show Below w.heap.size w _ by repeat (first | exact (HB4.out.alloc HB4.out.size _) | apply pw_below_drewN | apply below_drew1))) hb2); clear hb2))
      go_ret
      exact ⟨rfl, HB2.out⟩
    · obtain ⟨Z, rfl⟩ : ∃ Z : Nat, z = (Z : Int) := ⟨z.toNat, by omega⟩
      have hZ : Z ≤ 1048576 := by omega
      clear hzz hz
      obtain ⟨an, rfl⟩ : ∃ an : Nat, aa = (an : Int) := ⟨aa.toNat, by have := bounds_u8 ha; omega⟩
      have han : an < 256 := by have := bounds_u8 ha; omega
      obtain ⟨kN, hkN⟩ : ∃ kN, an % (l.length + 1) = kN := ⟨_, rfl⟩
      have hkl : kN ≤ l.length := by have := Nat.mod_lt an (show 0 < l.length + 1 by omega); omega
      have hmod : Int.tmod (an : Int) ((l.length : Int) + 1) = (kN : Int) := by
        rw [← hkN]
        have : ((l.length : Int) + 1) = ((l.length + 1 : Nat) : Int) := by omega
        rw [this, Int.ofNat_tmod]
      obtain ⟨AH, hslh, hCH⟩ := cut40_h hr0 hc0 kN hkl
      obtain ⟨AL, hsll, hCL⟩ := cut40_l hr0 hc0 kN hkl
      have HCH := Aside0.mk hCH
      have HCL := Aside0.mk hCL
      have HSL := Aside0.mk hsll
      clear ha hkN hCH hCL hr0
      go_enter Try.func8, Try.ntmps8
      go_wp2_with (first | (go_at_call 16; (with_reducible refine (few_calls A0 c0 l _ HR.out hc0 (by omega)).mono ?_); rintro e w1 ⟨rfl, hb1⟩; rw [HF.out]; have HB1 := Aside0.mk hb1; clear hb1) | (go_at_call 10; (with_reducible refine (new_calls (Z : Int) _ (by omega)).mono ?_); rintro e w3 ⟨p, rfl, hp, hd, hb⟩; have HD3 : Aside0 (DiskAt w3 p [] 0 Z) := ⟨by simpa using hd⟩; have HP := Aside0.mk (Nat.le_trans (show w.heap.size ≤ _ from Below.size (show Below w.heap.size w _ by repeat (first | exact HB1.out | apply pw_below_drewN | apply below_drew1))) hp); have HB3 := Aside0.mk (below_then (show Below w.heap.size w _ by repeat (first | exact HB1.out | apply pw_below_drewN | apply below_drew1)) (Below.size (show Below w.heap.size w _ by repeat (first | exact HB1.out | apply pw_below_drewN | apply below_drew1))) hb); clear hd hb hp) | (go_at_call 17; (with_reducible refine (rnew_any (Z : Int) _).mono ?_); rintro e w4 ⟨A4, c4, A4', c4', rfl, hr4, hb4⟩; rw [decide_eq_true (show (0 ≤ (Z : Int) ∧ (Z : Int) ≤ 1048576) by omega)]; have HR4 : Aside0 (Rf w4 (.agg #[.slice A4 0 c4, .slice A4' 0 c4', .int .i64 (Z : Int)]) [] [] Z) := ⟨by simpa using hr4 ⟨by omega, by omega⟩⟩; have HB4 := Aside0.mk (below_thenR (Nat.le_refl _) HB3.out hb4); have HD4 := Aside0.mk (HD3.out.below hb4); clear hr4 hb4))
      obtain ⟨gr, hgr⟩ : ∃ gr, gr = w4.heap.size := ⟨_, rfl⟩
      have HGR : Aside0 (w.heap.size ≤ gr ∧ gr ≠ p) := ⟨by have := HB4.out.size; have := HD4.out.lt; omega⟩
      rw [← hgr]
      have HST : Aside0 (DiskAt (w4.alloc (.cells #[.slice A4 0 c4, .slice A4' 0 c4', .int .i64 (Z : Int)] 36)) p [] 0 Z ∧ RefAt (w4.alloc (.cells #[.slice A4 0 c4, .slice A4' 0 c4', .int .i64 (Z : Int)] 36)) gr [] [] Z ∧ Below w.heap.size w (w4.alloc (.cells #[.slice A4 0 c4, .slice A4' 0 c4', .int .i64 (Z : Int)] 36))) :=
        ⟨HD4.out.below (below_alloc (Below.refl _ _) _), ⟨_, _, _, HR4.out.below (below_alloc (Below.refl _ _) _), by rw [hgr]; exact blk_new _ _⟩, below_thenR (Nat.le_refl _) HB4.out (below_alloc (Below.refl _ _) _)⟩
      have hlk : (l.take kN).length = kN := by simp; omega
      have HLK := Aside0.mk hlk
      clear hgr hlk
      go_loopw [59] (fun i wr => ∃ (k : Nat) (b : List Int) (s : Nat) (S L : List Int), i = .int .i64 k ∧ k ≤ kN ∧ Rel b s S L Z ∧ Aside0 (DiskAt wr p b s Z) ∧ Aside0 (RefAt wr gr S L Z) ∧ Aside0 (Below w.heap.size w wr)) (fun i _ => kN - (intOf i).toNat)
      case atStart => exact ⟨0, [], 0, [], [], rfl, by omega, ⟨rfl, rfl, by simp⟩, ⟨HST.out.1⟩, ⟨HST.out.2.1⟩, ⟨HST.out.2.2⟩⟩
      case round =>
        obtain ⟨k, b, s, S, L, rfl, hk, hrel', HD, HF2, HB⟩ := hrel
        by_cases hlt : k < kN
        · have hlt' : k < (l.take kN).length := by rw [HLK.out]; exact hlt
          obtain ⟨x, hx⟩ : ∃ x, (l.take kN)[k]? = some x := ⟨_, List.getElem?_eq_getElem hlt'⟩
          have hxm : x ∈ l := List.mem_of_mem_take (List.mem_of_getElem? hx)
          rcases hsd : stD x b s Z with ⟨b', s', eD⟩
          rcases hsr : stR x S L Z with ⟨S', L', eR⟩
          obtain ⟨hs1, hs2⟩ := step_rel x b s Z S L hrel'
          rw [hsd, hsr] at hs1 hs2
          simp only at hs1 hs2
          obtain ⟨hbe', hss', hbz'⟩ := hs1
          subst hss'
          have HBE := Aside0.mk hbe'
          have HSD := Aside0.mk hsd
          subst hs2
          have HW : Aside0 (x.f4.length ≤ 100 ∧ 0 ≤ x.f3 ∧ x.f3 < 256) := ⟨hfw x hxm, by have := bounds_u8 (hwf x hxm).2.2.2.1; omega⟩
          have HSR := Aside0.mk hsr
          obtain ⟨ad, A5, c5, e0, t0, t1, t2, t3, t4, hl5, hC5⟩ := at_do (Kd.C_below HCH.out HB.out) k x hx
          subst e0
          have HC5 := Aside0.mk hC5
          obtain ⟨A6, c6, A6', c6', hr6, hb6⟩ := HF2.out.open_
          have HR6 := Aside0.mk hr6
          have HB6 := Aside0.mk hb6
          have hb6a := blk_below hb6 (below_alloc (Below.refl _ _) (.cells #[.int .i64 x.f0, .int .i64 x.f1, .int .i64 x.f2, .int .u8 x.f3, .slice A5 x.f4.length c5] 40))
          have x0 := (blk_cell hb6a 0).trans rfl
          have x1 := (blk_cell hb6a 1).trans rfl
          have x2 := (blk_cell hb6a 2).trans rfl
          clear hb6a
          clear hr6 hb6
          have j1 : (k : Int) < (kN : Int) := by omega
          have ne1 : ¬ gr = wr.heap.size := by have := blk_lt HB6.out; omega
          clear hsd hsr hbe' hC5 hx hxm hrel'
          go_wp2_with (first | (go_at_call 18; (refine (does_calls p b s Z _ S L Z _ x _ (HD.out.below (below_alloc (Below.refl _ _) _)) (HR6.out.below (below_alloc (Below.refl _ _) _)) (k40_mk _ x hl5 (Kd.C_below HC5.out (below_alloc (Below.refl _ _) _))) HW.out.1 HW.out.2).mono ?_); rintro e w8 ⟨v8, rfl, hd8, hr8, hg8⟩; rw [HSD.out] at hd8 ⊢; rw [HSR.out] at hr8 ⊢; simp only at hd8 hr8 ⊢; rw [show (eR == eR) = true by simp]; have HD8 := Aside0.mk hd8; have HR8 := Aside0.mk hr8; have HG8 := Aside0.mk hg8; obtain ⟨A8, c8, A8', c8', ev8, _⟩ := hr8; subst ev8; have HK8 := Aside0.mk ((hg8.block gr (Nat.lt_of_lt_of_le (blk_lt HB6.out) (Below.size (below_alloc (Below.refl _ _) _))) (fun e => by injection e with e; exact HGR.out.2 e)).trans (blk_below HB6.out (below_alloc (Below.refl _ _) _))); have HB8 := Aside0.mk (below_gb (below_thenR (Nat.le_refl _) HB.out (below_alloc (Below.refl _ _) _)) (below_thenR (Nat.le_refl _) HB.out (below_alloc (Below.refl _ _) _)).size hg8 HP.out); have y0 := (blk_cell HK8.out 0).trans rfl; have y1 := (blk_cell HK8.out 1).trans rfl; have y2 := (blk_cell HK8.out 2).trans rfl; have g0 := blk_frozen HK8.out 0; have g1 := blk_frozen HK8.out 1; have g2 := blk_frozen HK8.out 2; have HF9 := Aside0.mk (fin3 (.slice A8 S'.length c8) (.slice A8' L'.length c8') (.int .i64 (Z : Int)) HD8.out HR8.out (grown_of_below HB8.out (some p)) HK8.out HGR.out.1 HGR.out.2); have HB9 := Aside0.mk (below_set (below_set (below_set HB8.out HGR.out.1 0 (.slice A8 S'.length c8)) HGR.out.1 1 (.slice A8' L'.length c8')) HGR.out.1 2 (.int .i64 (Z : Int))); clear hd8 hg8))
          go_roundw
          case rel => exact ⟨k + 1, b', S'.length, S', L', by go_num, by omega, ⟨HBE.out, rfl, hbz'⟩, ⟨HF9.out.1⟩, ⟨⟨_, _, _, HF9.out.2.1, HF9.out.2.2.2⟩⟩, ⟨HB9.out⟩⟩
          case measure =>
            simp [intOf]
            omega
        · have hke : k = kN := by omega
          subst hke
          obtain ⟨A6, c6, A6', c6', hr6, hb6⟩ := HF2.out.open_
          have HR6 := Aside0.mk hr6
          have HB6 := Aside0.mk hb6
          have x0 := (blk_cell hb6 0).trans rfl
          have x1 := (blk_cell hb6 1).trans rfl
          have x2 := (blk_cell hb6 2).trans rfl
          clear hr6 hb6
          clear hmod hslh
          have hsll := HSL.out
          have ne1 : ¬ gr = wr.heap.size := by have := blk_lt HB6.out; omega
          have ne2 : ¬ wr.heap.size = gr := fun e => ne1 e.symm
          go_wp2
          go_region_held3 (fun w' => w'.cell? ⟨gr, 0, none⟩ = some (.slice A6 S.length c6) ∧ w'.cell? ⟨gr, 1, none⟩ = some (.slice A6' L.length c6') ∧ w'.cell? ⟨gr, 2, none⟩ = some (.int .i64 (Z : Int))) (go_keep) (first | (go_at_call 22; (with_reducible refine (copy_calls p b s Z _ (HD.out.below (show Below wr.heap.size wr _ by repeat (first | exact Below.refl _ _ | apply below_alloc | apply pw_below_drewN | apply below_drew1)))).mono ?_); rintro e w20 ⟨q, rfl, hq20, hdq, hb20⟩; have HQ20 := Aside0.mk (Nat.le_trans (show wr.heap.size ≤ _ from Below.size (show Below wr.heap.size wr _ by repeat (first | exact Below.refl _ _ | apply below_alloc | apply pw_below_drewN | apply below_drew1))) hq20); have HDQ := Aside0.mk hdq; have V20 := Aside0.mk (below_thenR (Nat.le_refl _) (show Below wr.heap.size wr _ by repeat (first | exact Below.refl _ _ | apply below_alloc | apply pw_below_drewN | apply below_drew1)) hb20); (first | (have hzb : w20.heap[wr.heap.size]? = some (.cells #[.slice none 0 0, .slice none 0 0, .int .i64 0] 36 (0, 0)) := blk_below (blk_new wr.drew (.cells #[.slice none 0 0, .slice none 0 0, .int .i64 0] 36)) hb20; have HZB := Aside0.mk hzb; have s0 := (blk_cell hzb 0).trans rfl; have s1 := (blk_cell hzb 1).trans rfl; have s2 := (blk_cell hzb 2).trans rfl; have k0 := blk_frozen hzb 0; have k1 := blk_frozen hzb 1; have k2 := blk_frozen hzb 2; clear hzb) | skip); have ne3 : ¬ gr = w20.heap.size := (by have := blk_lt (blk_below HB6.out V20.out); omega); have ne4 : ¬ w20.heap.size = gr := (fun e => ne3 e.symm); have hb6b := blk_below HB6.out V20.out; have x0 := (blk_cell hb6b 0).trans rfl; have x1 := (blk_cell hb6b 1).trans rfl; have x2 := (blk_cell hb6b 2).trans rfl; clear hb6b hq20 hdq hb20))
          · obtain ⟨gc, hgc⟩ : ∃ gc, gc = w20.heap.size := ⟨_, rfl⟩
            rw [← hgc]
            have hall : DiskAt (w20.alloc (.cells #[.slice A6 S.length c6, .slice A6' L.length c6', .int .i64 (Z : Int)] 36)) p b s Z ∧ DiskAt (w20.alloc (.cells #[.slice A6 S.length c6, .slice A6' L.length c6', .int .i64 (Z : Int)] 36)) q b s Z ∧ RefAt (w20.alloc (.cells #[.slice A6 S.length c6, .slice A6' L.length c6', .int .i64 (Z : Int)] 36)) gr S L Z ∧ RefAt (w20.alloc (.cells #[.slice A6 S.length c6, .slice A6' L.length c6', .int .i64 (Z : Int)] 36)) gc S L Z ∧ Below w.heap.size w (w20.alloc (.cells #[.slice A6 S.length c6, .slice A6' L.length c6', .int .i64 (Z : Int)] 36)) :=
              ⟨(HD.out.below V20.out).below (below_alloc (Below.refl _ _) _), HDQ.out.below (below_alloc (Below.refl _ _) _), (HF2.out.below V20.out).below (below_alloc (Below.refl _ _) _), ⟨_, _, _, (HR6.out.below V20.out).below (below_alloc (Below.refl _ _) _), by rw [hgc]; exact blk_new _ _⟩, below_thenR (Nat.le_refl _) (below_thenR (Nat.le_refl _) HB.out V20.out) (below_alloc (Below.refl _ _) _)⟩
            have hne : gc ≠ p ∧ gc ≠ gr ∧ q ≠ p ∧ q ≠ gr ∧ gc ≠ q ∧ w.heap.size ≤ gc ∧ w.heap.size ≤ q := by
              have h1 := (HD.out.below V20.out).lt
              have h2 := HDQ.out.lt
              have h3 := blk_lt (blk_below HB6.out V20.out)
              have h4 := HD.out.lt
              have h5 := blk_lt HB6.out
              have h6 := HQ20.out
              have h7 := HB.out.size
              have h8 := V20.out.size
              omega
            generalize w20.alloc (.cells #[.slice A6 S.length c6, .slice A6' L.length c6', .int .i64 (Z : Int)] 36) = W at hall ⊢
            clear hgc
            have HALL := Aside0.mk hall
            have HNE := Aside0.mk hne
            have HGC : Aside0 (w.heap.size ≤ gc ∧ gc ≠ q) := ⟨hne.2.2.2.2.2.1, hne.2.2.2.2.1⟩
            have HPQ : Aside0 (w.heap.size ≤ q) := ⟨hne.2.2.2.2.2.2⟩
            have HREL := Aside0.mk hrel'
            have hld : (l.drop k).length = l.length - k := by simp
            have HLD := Aside0.mk hld
            clear hall hne hrel' hld x0 x1 x2
            go_wp2
            go_loopw [78] (fun i wr => ∃ (j : Nat) (bb : List Int) (ss : Nat) (SS LL : List Int), i = .int .i64 j ∧ j ≤ l.length - k ∧ Rel bb ss SS LL Z ∧ Aside0 (DiskAt wr p bb ss Z) ∧ Aside0 (RefAt wr gr SS LL Z) ∧ Aside0 (DiskAt wr q b s Z) ∧ Aside0 (RefAt wr gc S L Z) ∧ Aside0 (Below w.heap.size w wr)) (fun i _ => l.length - k - (intOf i).toNat)
            case atStart => exact ⟨0, b, s, S, L, rfl, by omega, HREL.out, ⟨HALL.out.1⟩, ⟨HALL.out.2.2.1⟩, ⟨HALL.out.2.1⟩, ⟨HALL.out.2.2.2.1⟩, ⟨HALL.out.2.2.2.2⟩⟩
            case round =>
              obtain ⟨j, bb, ss, SS, LL, rfl, hj, hrel2, HD, HF2, HDQ2, HRC2, HB⟩ := hrel
              by_cases hlt : j < l.length - k
              · have hlt' : j < (l.drop k).length := by rw [HLD.out]; exact hlt
                obtain ⟨x, hx⟩ : ∃ x, (l.drop k)[j]? = some x := ⟨_, List.getElem?_eq_getElem hlt'⟩
                have hxm : x ∈ l := List.mem_of_mem_drop (List.mem_of_getElem? hx)
                rcases hsd : stD x bb ss Z with ⟨b', s', eD⟩
                rcases hsr : stR x SS LL Z with ⟨S', L', eR⟩
                obtain ⟨hs1, hs2⟩ := step_rel x bb ss Z SS LL hrel2
                rw [hsd, hsr] at hs1 hs2
                simp only at hs1 hs2
                obtain ⟨hbe', hss', hbz'⟩ := hs1
                subst hss'
                have HBE := Aside0.mk hbe'
                have HSD := Aside0.mk hsd
                subst hs2
                have HW : Aside0 (x.f4.length ≤ 100 ∧ 0 ≤ x.f3 ∧ x.f3 < 256) := ⟨hfw x hxm, by have := bounds_u8 (hwf x hxm).2.2.2.1; omega⟩
                have HSR := Aside0.mk hsr
                obtain ⟨ad, A5, c5, e0, t0, t1, t2, t3, t4, hl5, hC5⟩ := at_do (Kd.C_below HCL.out HB.out) j x hx
                subst e0
                have HC5 := Aside0.mk hC5
                obtain ⟨A6, c6, A6', c6', hr6, hb6⟩ := HF2.out.open_
                have HR6 := Aside0.mk hr6
                have HB6 := Aside0.mk hb6
                have hb6a := blk_below hb6 (below_alloc (Below.refl _ _) (.cells #[.int .i64 x.f0, .int .i64 x.f1, .int .i64 x.f2, .int .u8 x.f3, .slice A5 x.f4.length c5] 40))
                have x0 := (blk_cell hb6a 0).trans rfl
                have x1 := (blk_cell hb6a 1).trans rfl
                have x2 := (blk_cell hb6a 2).trans rfl
                clear hb6a
                clear hr6 hb6
                have j1 : (j : Int) < (l.length : Int) - (k : Int) := by omega
                have j2 : ((l.length - k : Nat) : Int) = (l.length : Int) - (k : Int) := by omega
                have j3 : (j : Int) < ((l.length - k : Nat) : Int) := by omega
                have ne1 : ¬ gr = wr.heap.size := by have := blk_lt HB6.out; omega
                clear hsd hsr hbe' hC5 hx hxm hrel2 j2
                go_wp2_with (first | (go_at_call 18; (refine (does_calls p bb ss Z _ SS LL Z _ x _ (HD.out.below (below_alloc (Below.refl _ _) _)) (HR6.out.below (below_alloc (Below.refl _ _) _)) (k40_mk _ x hl5 (Kd.C_below HC5.out (below_alloc (Below.refl _ _) _))) HW.out.1 HW.out.2).mono ?_); rintro e w8 ⟨v8, rfl, hd8, hr8, hg8⟩; rw [HSD.out] at hd8 ⊢; rw [HSR.out] at hr8 ⊢; simp only at hd8 hr8 ⊢; rw [show (eR == eR) = true by simp]; have HD8 := Aside0.mk hd8; have HR8 := Aside0.mk hr8; have HG8 := Aside0.mk hg8; obtain ⟨A8, c8, A8', c8', ev8, _⟩ := hr8; subst ev8; have HK8 := Aside0.mk ((hg8.block gr (Nat.lt_of_lt_of_le (blk_lt HB6.out) (Below.size (below_alloc (Below.refl _ _) _))) (fun e => by injection e with e; exact HGR.out.2 e)).trans (blk_below HB6.out (below_alloc (Below.refl _ _) _))); have HB8 := Aside0.mk (below_gb (below_thenR (Nat.le_refl _) HB.out (below_alloc (Below.refl _ _) _)) (below_thenR (Nat.le_refl _) HB.out (below_alloc (Below.refl _ _) _)).size hg8 HP.out); have y0 := (blk_cell HK8.out 0).trans rfl; have y1 := (blk_cell HK8.out 1).trans rfl; have y2 := (blk_cell HK8.out 2).trans rfl; have g0 := blk_frozen HK8.out 0; have g1 := blk_frozen HK8.out 1; have g2 := blk_frozen HK8.out 2; have HF9 := Aside0.mk (fin3 (.slice A8 S'.length c8) (.slice A8' L'.length c8') (.int .i64 (Z : Int)) HD8.out HR8.out (grown_of_below HB8.out (some p)) HK8.out HGR.out.1 HGR.out.2); have HB9 := Aside0.mk (below_set (below_set (below_set HB8.out HGR.out.1 0 (.slice A8 S'.length c8)) HGR.out.1 1 (.slice A8' L'.length c8')) HGR.out.1 2 (.int .i64 (Z : Int))); have HPN := Aside0.mk (pair_next (.slice A8 S'.length c8) (.slice A8' L'.length c8') (.int .i64 (Z : Int)) (HD.out.below (below_alloc (Below.refl _ _) _)) (HDQ2.out.below (below_alloc (Below.refl _ _) _)) (HRC2.out.below (below_alloc (Below.refl _ _) _)) HG8.out HK8.out (fun e => HNE.out.2.2.1 e.symm) HNE.out.1 (fun e => HNE.out.2.2.2.1 e.symm) HNE.out.2.1); clear hd8 hg8))
                go_roundw
                case rel => exact ⟨j + 1, b', S'.length, S', L', by go_num, by omega, ⟨HBE.out, rfl, hbz'⟩, ⟨HF9.out.1⟩, ⟨⟨_, _, _, HF9.out.2.1, HF9.out.2.2.2⟩⟩, ⟨HPN.out.1⟩, ⟨HPN.out.2⟩, ⟨HB9.out⟩⟩
                case measure =>
                  simp [intOf]
                  omega
              · have hje : j = l.length - k := by omega
                have j3 : ¬ (j : Int) < ((l.length - k : Nat) : Int) := by omega
                have HST2 := Aside0.mk (And.intro HD.out (And.intro HF2.out (And.intro HDQ2.out (And.intro HRC2.out HB.out))))
                have HREL2 := Aside0.mk hrel2
                clear hrel2 hje HD HF2 HDQ2 HRC2 HB
                go_wp2
                go_loopw [17] (fun i wr => ∃ (m : Nat) (b3 : List Int) (s3 : Nat) (S3 L3 : List Int), i = .int .i64 ((m : Int) - 1) ∧ k ≤ m ∧ m ≤ l.length ∧ Rel b3 s3 S3 L3 Z ∧ Aside0 (DiskAt wr q b3 s3 Z) ∧ Aside0 (RefAt wr gc S3 L3 Z) ∧ Aside0 (DiskAt wr p bb ss Z) ∧ Aside0 (RefAt wr gr SS LL Z) ∧ Aside0 (Below w.heap.size w wr)) (fun i _ => ((intOf i) + 1).toNat)
                case atStart => exact ⟨l.length, b, s, S, L, by go_num, hkl, Nat.le_refl _, HREL.out, ⟨HST2.out.2.2.1⟩, ⟨HST2.out.2.2.2.1⟩, ⟨HST2.out.1⟩, ⟨HST2.out.2.1⟩, ⟨HST2.out.2.2.2.2⟩⟩
                case round =>
                  obtain ⟨m, b3, s3, S3, L3, hi, hm1, hm2, hrel3, HD, HF2, HDP2, HRR2, HB⟩ := hrel
                  by_cases hlt : k < m
                  · obtain ⟨n, rfl⟩ : ∃ n, m = n + 1 := ⟨m - 1, by omega⟩
                    have hi' := hi.trans (show Value.int .i64 (((n + 1 : Nat) : Int) - 1) = Value.int .i64 (n : Int) by congr 1; omega)
                    clear hi
                    subst hi'
                    have hlt' : n < l.length := by omega
                    obtain ⟨x, hx⟩ : ∃ x, (l)[n]? = some x := ⟨_, List.getElem?_eq_getElem hlt'⟩
                    have hxm : x ∈ l := List.mem_of_getElem? hx
                    rcases hsd : stD x b3 s3 Z with ⟨b', s', eD⟩
                    rcases hsr : stR x S3 L3 Z with ⟨S', L', eR⟩
                    obtain ⟨hs1, hs2⟩ := step_rel x b3 s3 Z S3 L3 hrel3
                    rw [hsd, hsr] at hs1 hs2
                    simp only at hs1 hs2
                    obtain ⟨hbe', hss', hbz'⟩ := hs1
                    subst hss'
                    have HBE := Aside0.mk hbe'
                    have HSD := Aside0.mk hsd
                    subst hs2
                    have HW : Aside0 (x.f4.length ≤ 100 ∧ 0 ≤ x.f3 ∧ x.f3 < 256) := ⟨hfw x hxm, by have := bounds_u8 (hwf x hxm).2.2.2.1; omega⟩
                    have HSR := Aside0.mk hsr
                    obtain ⟨ad, A5, c5, e0, t0, t1, t2, t3, t4, hl5, hC5⟩ := at_do HR.out n x hx
                    have HTT := Aside0.mk (And.intro t0 (And.intro t1 (And.intro t2 (And.intro t3 t4))))
                    have t0 := cell_below0 t0 HB.out
                    have t1 := cell_below0 t1 HB.out
                    have t2 := cell_below0 t2 HB.out
                    have t3 := cell_below0 t3 HB.out
                    have t4 := cell_below0 t4 HB.out
                    have hC5 := Kd.C_below hC5 HB.out
                    subst e0
                    have HC5 := Aside0.mk hC5
                    obtain ⟨A6, c6, A6', c6', hr6, hb6⟩ := HF2.out.open_
                    have HR6 := Aside0.mk hr6
                    have HB6 := Aside0.mk hb6
                    have x0 := (blk_cell hb6 0).trans rfl
                    have x1 := (blk_cell hb6 1).trans rfl
                    have x2 := (blk_cell hb6 2).trans rfl
                    clear hr6 hb6
                    have j1 : (n : Int) < (l.length : Int) := by omega
                    have j2 : decide ((k : Int) ≤ (n : Int)) = true := decide_eq_true (by omega)
                    have j3 : decide (k ≤ n) = true := decide_eq_true (by omega)
                    clear hsd hsr hbe' hC5 hx hxm hrel3
                    go_wp2
                    refine start_ (n := 11) (S := fun w' => w'.cell? (ad.add (n * 5)) = some (.int .i64 x.f0) ∧ w'.cell? ⟨(ad.add (n * 5)).block, (ad.add (n * 5)).off + 1, none⟩ = some (.int .i64 x.f1) ∧ w'.cell? ⟨(ad.add (n * 5)).block, (ad.add (n * 5)).off + 2, none⟩ = some (.int .i64 x.f2) ∧ w'.cell? ⟨(ad.add (n * 5)).block, (ad.add (n * 5)).off + 3, none⟩ = some (.int .u8 x.f3) ∧ w'.cell? ⟨(ad.add (n * 5)).block, (ad.add (n * 5)).off + 4, none⟩ = some (.slice A5 x.f4.length c5)) (ds := []) #[false, false, false, false, false, false, false, false, false, false, false] (by kernel_rfl) rfl rfl ⟨t0, t1, t2, t3, t4⟩ (fun hHeld => ?_)
                    refine with_tab rfl (fun HT_ => ?_)
                    have V22 := Aside0.mk (below_drew1 (Below.refl wr.heap.size wr))
                    have x0 : wr.drew.cell? ⟨gc, 0, none⟩ = some (.slice A6 S3.length c6) := x0
                    have x1 : wr.drew.cell? ⟨gc, 1, none⟩ = some (.slice A6' L3.length c6') := x1
                    have x2 : wr.drew.cell? ⟨gc, 2, none⟩ = some (.int .i64 (Z : Int)) := x2
                    clear t0 t1 t2 t3 t4
                    generalize wr.drew = w22 at V22 x0 x1 x2 hHeld ⊢
                    refine pure_ (i := 0) (N := some 99) (v := ?_) (a' := ?_) #[true, false, false, false, false, false, false, false, false, false, false] rfl rfl (any_of HT_.out (by kernel_rfl)) (fun _ _ _ h => h) (Or.inl ⟨by rfl, ?_⟩) ?_ ?_
                    rotate_left
                    · intro w'
                      go_simp
                      first | with_reducible rfl | rfl
                    rotate_left
                    · simp only [Act.put, List.setIfInBounds_toArray, List.set_cons_zero, List.set_cons_succ, i64_w, i32_w]
                      rfl
                    refine pure_ (i := 2) (N := some 101) (v := ?_) (a' := ?_) #[true, false, true, false, false, false, false, false, false, false, false] rfl rfl (any_of HT_.out (by kernel_rfl)) (fun _ _ _ h => h) (Or.inl ⟨by rfl, ?_⟩) ?_ ?_
                    rotate_left
                    · intro w'
                      go_simp
                      first | with_reducible rfl | rfl
                    rotate_left
                    · simp only [Act.put, List.setIfInBounds_toArray, List.set_cons_zero, List.set_cons_succ, i64_w, i32_w]
                      rfl
                    refine pure_ (i := 3) (N := some 102) (v := ?_) (a' := ?_) #[true, false, true, true, false, false, false, false, false, false, false] rfl rfl (any_of HT_.out (by kernel_rfl)) (fun _ _ _ h => h) (Or.inl ⟨by rfl, ?_⟩) ?_ ?_
                    rotate_left
                    · intro w'
                      go_simp
                      first | with_reducible rfl | rfl
                    rotate_left
                    · simp only [Act.put, List.setIfInBounds_toArray, List.set_cons_zero, List.set_cons_succ, i64_w, i32_w]
                      rfl
                    refine pure_ (i := 4) (N := some 103) (v := ?_) (a' := ?_) #[true, false, true, true, true, false, false, false, false, false, false] rfl rfl (any_of HT_.out (by kernel_rfl)) (fun _ _ _ h => h) (Or.inl ⟨by rfl, ?_⟩) ?_ ?_
                    rotate_left
                    · intro w'
                      go_simp
                      first | with_reducible rfl | rfl
                    rotate_left
                    · simp only [Act.put, List.setIfInBounds_toArray, List.set_cons_zero, List.set_cons_succ, i64_w, i32_w]
                      rfl
                    refine take_ (i := 5) (N := some 104) (v := ?_) (a' := ?_) #[true, false, true, true, true, true, false, false, false, false, false] rfl rfl (take_of HT_.out (by kernel_rfl)) (fun _ _ _ h => h) (Or.inl ⟨by rfl, ?_⟩) hHeld ?_ ?_
                    rotate_left
                    · rintro w' ⟨t0, t1, t2, t3, t4⟩
                      go_simp
                      first | with_reducible rfl | rfl
                    rotate_left
                    · simp only [Act.put, List.setIfInBounds_toArray, List.set_cons_zero, List.set_cons_succ, i64_w, i32_w]
                      rfl
                    refine one_ (i := 1) (N := some 100) #[true, true, true, true, true, true, false, false, false, false, false] rfl rfl (one_of HT_.out (by kernel_rfl)) (by decide) (fun K hK => ?_)
                    refine val_ (v := ?_) (w1 := w22) (by rfl) rfl ?_ ?_
                    rotate_left
                    · go_simp
                      first | rfl | exact ⟨rfl, rfl⟩
                    refine hK.out _ _ hHeld (fun hHeld => ?_)
                    clear hK K
                    refine norm_ (a' := ?_) ?_ ?_
                    rotate_left
                    · show Act.put _ (some 100) _ = _
                      simp only [Act.put, List.setIfInBounds_toArray, List.set_cons_zero, List.set_cons_succ, i64_w, i32_w]
                      rfl
                    refine one_ (i := 6) (N := some 105) #[true, true, true, true, true, true, true, false, false, false, false] rfl rfl (one_of HT_.out (by kernel_rfl)) (by decide) (fun K hK => ?_)
                    refine call_ 18 _ (by rfl) rfl (by go_simp; rfl) ?_
                    (refine (does_calls q b3 s3 Z _ S3 L3 Z _ x _ (HD.out.below V22.out) (HR6.out.below V22.out) (k40_mk _ x hl5 (Kd.C_below HC5.out V22.out)) HW.out.1 HW.out.2).mono ?_); rintro e w8 ⟨v8, rfl, hd8, hr8, hg8⟩; rw [HSD.out] at hd8 ⊢; rw [HSR.out] at hr8 ⊢; simp only at hd8 hr8 ⊢; rw [show (eR == eR) = true by simp]; have HD8 := Aside0.mk hd8; have HR8 := Aside0.mk hr8; have HG8 := Aside0.mk hg8; obtain ⟨A8, c8, A8', c8', ev8, _⟩ := hr8; subst ev8; have HK8 := Aside0.mk ((hg8.block gc (Nat.lt_of_lt_of_le (blk_lt HB6.out) (Below.size V22.out)) (fun e => by injection e with e; exact HGC.out.2 e)).trans (blk_below HB6.out V22.out)); have HB8 := Aside0.mk (below_gb (below_thenR (Nat.le_refl _) HB.out V22.out) (below_thenR (Nat.le_refl _) HB.out V22.out).size hg8 HPQ.out); have y0 := (blk_cell HK8.out 0).trans rfl; have y1 := (blk_cell HK8.out 1).trans rfl; have y2 := (blk_cell HK8.out 2).trans rfl; have g0 := blk_frozen HK8.out 0; have g1 := blk_frozen HK8.out 1; have g2 := blk_frozen HK8.out 2; have HF9 := Aside0.mk (fin3 (.slice A8 S'.length c8) (.slice A8' L'.length c8') (.int .i64 (Z : Int)) HD8.out HR8.out (grown_of_below HB8.out (some q)) HK8.out HGC.out.1 HGC.out.2); have HB9 := Aside0.mk (below_set (below_set (below_set HB8.out HGC.out.1 0 (.slice A8 S'.length c8)) HGC.out.1 1 (.slice A8' L'.length c8')) HGC.out.1 2 (.int .i64 (Z : Int))); have HPN := Aside0.mk (pair_next (.slice A8 S'.length c8) (.slice A8' L'.length c8') (.int .i64 (Z : Int)) (HD.out.below V22.out) (HDP2.out.below V22.out) (HRR2.out.below V22.out) HG8.out HK8.out HNE.out.2.2.1 (fun e => HNE.out.2.2.2.1 e.symm) HNE.out.1 (fun e => HNE.out.2.1 e.symm)); clear hd8 hg8
                    refine ⟨_, rfl, ?_⟩
                    refine hK.out _ _ ⟨cell_below0 HTT.out.1 HB8.out, cell_below0 HTT.out.2.1 HB8.out, cell_below0 HTT.out.2.2.1 HB8.out, cell_below0 HTT.out.2.2.2.1 HB8.out, cell_below0 HTT.out.2.2.2.2 HB8.out⟩ (fun hHeld => ?_)
                    clear hK K
                    refine norm_ (a' := ?_) ?_ ?_
                    rotate_left
                    · show Act.put _ (some 105) _ = _
                      simp only [Act.put, List.setIfInBounds_toArray, List.set_cons_zero, List.set_cons_succ, i64_w, i32_w]
                      rfl
                    refine pure_ (i := 7) (N := some 98) (v := ?_) (a' := ?_) #[true, true, true, true, true, true, true, true, false, false, false] rfl rfl (any_of HT_.out (by kernel_rfl)) (fun _ _ _ h => h) (Or.inl ⟨by rfl, ?_⟩) ?_ ?_
                    rotate_left
                    · intro w'
                      go_simp
                      first | with_reducible rfl | rfl
                    rotate_left
                    · simp only [Act.put, List.setIfInBounds_toArray, List.set_cons_zero, List.set_cons_succ, i64_w, i32_w]
                      rfl
                    refine pure_ (i := 8) (N := some 106) (v := ?_) (a' := ?_) #[true, true, true, true, true, true, true, true, true, false, false] rfl rfl (any_of HT_.out (by kernel_rfl)) (fun _ _ _ h => h) (Or.inl ⟨by rfl, ?_⟩) ?_ ?_
                    rotate_left
                    · intro w'
                      go_simp
                      first | with_reducible rfl | rfl
                    rotate_left
                    · simp only [Act.put, List.setIfInBounds_toArray, List.set_cons_zero, List.set_cons_succ, i64_w, i32_w]
                      rfl
                    refine pure_ (i := 9) (N := some 107) (v := ?_) (a' := ?_) #[true, true, true, true, true, true, true, true, true, true, false] rfl rfl (any_of HT_.out (by kernel_rfl)) (fun _ _ _ h => h) (Or.inl ⟨by rfl, ?_⟩) ?_ ?_
                    rotate_left
                    · intro w'
                      go_simp
                      first | with_reducible rfl | rfl
                    rotate_left
                    · simp only [Act.put, List.setIfInBounds_toArray, List.set_cons_zero, List.set_cons_succ, i64_w, i32_w]
                      rfl
                    refine one_ (i := 10) (N := none) #[true, true, true, true, true, true, true, true, true, true, true] rfl rfl (one_of HT_.out (by kernel_rfl)) (by decide) (fun K hK => ?_)
                    refine skip_ (w1 := ?_) (by rfl) rfl ?_ ?_
                    rotate_left
                    · go_simp
                      rfl
                    refine hK.out _ _ ⟨cell_below0 HTT.out.1 HB9.out, cell_below0 HTT.out.2.1 HB9.out, cell_below0 HTT.out.2.2.1 HB9.out, cell_below0 HTT.out.2.2.2.1 HB9.out, cell_below0 HTT.out.2.2.2.2 HB9.out⟩ (fun hHeld => ?_)
                    clear hK K
                    refine done_ (done_of HT_.out (by kernel_rfl)) ?_
                    go_wp2
                    refine ⟨⟨n, b', S'.length, S', L', rfl, by omega, by omega, ⟨HBE.out, rfl, hbz'⟩, ⟨HF9.out.1⟩, ⟨⟨_, _, _, HF9.out.2.1, HF9.out.2.2.2⟩⟩, ⟨HPN.out.1⟩, ⟨HPN.out.2⟩, ⟨HB9.out⟩⟩, ?_⟩
                    simp [intOf]
                  · have hme : m = k := by omega
                    subst hme
                    subst hi
                    have hbs := HREL2.out.1
                    have hss2 := HREL2.out.2.1
                    have hb3 := hrel3.1
                    have hs3 := hrel3.2.1
                    subst hss2
                    subst hs3
                    have HBE1 := Aside0.mk hbs
                    have HBE2 := Aside0.mk hb3
                    have j2 : decide ((m : Int) ≤ (m : Int) - 1) = false := decide_eq_false (by omega)
                    obtain ⟨A6, c6, A6', c6', hr6, hb6⟩ := HRR2.out.open_
                    have HR6 := Aside0.mk hr6
                    have HB6 := Aside0.mk hb6
                    have x0 := (blk_cell hb6 0).trans rfl
                    have x1 := (blk_cell hb6 1).trans rfl
                    have x2 := (blk_cell hb6 2).trans rfl
                    clear hr6 hb6
                    clear hbs hb3 hrel3
                    go_wp2_with (first | (go_at_call 19; have hh := HI1.out; (refine (is_calls q b3 Z _ S3 L3 _ HD9.out HR7.out HBE2.out).mono ?_); rintro e w10 ⟨rfl, hb10⟩; have HB10 := Aside0.mk (below_thenR (Nat.le_refl _) HB9.out hb10); clear hb10 hh) | (go_at_call 19; (refine (is_calls p bb Z _ SS LL _ HDP2.out HR6.out HBE1.out).mono ?_); rintro e w9 ⟨rfl, hb9⟩; have HI1 := Aside0.mk hb9; have HD9 := Aside0.mk (HD.out.below hb9); obtain ⟨A7, c7, A7', c7', hr7, hb7⟩ := (HF2.out.below hb9).open_; have HR7 := Aside0.mk hr7; have x3 := (blk_cell hb7 0).trans rfl; have x4 := (blk_cell hb7 1).trans rfl; have x5 := (blk_cell hb7 2).trans rfl; have HB9 := Aside0.mk (below_thenR (Nat.le_refl _) HB.out hb9); clear hb9 hr7 hb7) | (go_at_call 11; (with_reducible refine (awake_calls _).mono ?_); rintro e w2 ⟨rfl, hb2⟩; have HB2 := Aside0.mk (below_then (show Below w.heap.size w _ by repeat (first | exact HB10.out | apply pw_below_drewN | apply below_drew1)) (Below.size (show Below w.heap.size w _ by repeat (first | exact HB10.out | apply pw_below_drewN | apply below_drew1))) hb2); clear hb2))
                    go_ret
                    exact ⟨rfl, HB2.out⟩
          · have hgd : wr.heap.size ≠ p := by have := HD.out.lt; omega
            have hgq : wr.heap.size ≠ q := by
              intro e
              have h1 := HZB.out
              rw [e] at h1
              obtain ⟨_, _, h2⟩ := HDQ.out
              rw [h2.blk] at h1
              injection h1 with h1
              injection h1 with _ h1
              exact absurd h1 (by decide)
            have z3 := blk_put HZB.out 0 (.slice A6 S.length c6) rfl
            have z4 := blk_put z3 1 (.slice A6' L.length c6') rfl
            have hall : DiskAt (((w20.setCell ⟨wr.heap.size, 0, none⟩ (.slice A6 S.length c6)).setCell ⟨wr.heap.size, 1, none⟩ (.slice A6' L.length c6')).setCell ⟨wr.heap.size, 2, none⟩ (.int .i64 (Z : Int))) p b s Z ∧ DiskAt (((w20.setCell ⟨wr.heap.size, 0, none⟩ (.slice A6 S.length c6)).setCell ⟨wr.heap.size, 1, none⟩ (.slice A6' L.length c6')).setCell ⟨wr.heap.size, 2, none⟩ (.int .i64 (Z : Int))) q b s Z ∧ RefAt (((w20.setCell ⟨wr.heap.size, 0, none⟩ (.slice A6 S.length c6)).setCell ⟨wr.heap.size, 1, none⟩ (.slice A6' L.length c6')).setCell ⟨wr.heap.size, 2, none⟩ (.int .i64 (Z : Int))) gr S L Z ∧ RefAt (((w20.setCell ⟨wr.heap.size, 0, none⟩ (.slice A6 S.length c6)).setCell ⟨wr.heap.size, 1, none⟩ (.slice A6' L.length c6')).setCell ⟨wr.heap.size, 2, none⟩ (.int .i64 (Z : Int))) wr.heap.size S L Z ∧ Below w.heap.size w (((w20.setCell ⟨wr.heap.size, 0, none⟩ (.slice A6 S.length c6)).setCell ⟨wr.heap.size, 1, none⟩ (.slice A6' L.length c6')).setCell ⟨wr.heap.size, 2, none⟩ (.int .i64 (Z : Int))) :=
              ⟨(((HD.out.below V20.out).set HZB.out (by decide) hgd _ _).set z3 (by decide) hgd _ _).set z4 (by decide) hgd _ _, ((HDQ.out.set HZB.out (by decide) hgq _ _).set z3 (by decide) hgq _ _).set z4 (by decide) hgq _ _, (((HF2.out.below V20.out).set HZB.out (fun e => ne1 e) _ _).set z3 (fun e => ne1 e) _ _).set z4 (fun e => ne1 e) _ _, RefAt.put (HR6.out.below V20.out) HZB.out, below_set (below_set (below_set (below_thenR (Nat.le_refl _) HB.out V20.out) HB.out.size _ _) HB.out.size _ _) HB.out.size _ _⟩
            obtain ⟨gc, hgc⟩ : ∃ gc, gc = wr.heap.size := ⟨_, rfl⟩
            have hne : gc ≠ p ∧ gc ≠ gr ∧ q ≠ p ∧ q ≠ gr ∧ gc ≠ q ∧ w.heap.size ≤ gc ∧ w.heap.size ≤ q := by
              have h4 := HD.out.lt
              have h5 := blk_lt HB6.out
              have h6 := HQ20.out
              have h7 := HB.out.size
              refine ⟨by omega, by omega, by omega, by omega, by omega, by omega, by omega⟩
            generalize (((w20.setCell ⟨wr.heap.size, 0, none⟩ (.slice A6 S.length c6)).setCell ⟨wr.heap.size, 1, none⟩ (.slice A6' L.length c6')).setCell ⟨wr.heap.size, 2, none⟩ (.int .i64 (Z : Int))) = W at hall ⊢
            rw [← hgc] at hall ⊢
            clear hgc hgd hgq z3 z4
            have HALL := Aside0.mk hall
            have HNE := Aside0.mk hne
            have HGC : Aside0 (w.heap.size ≤ gc ∧ gc ≠ q) := ⟨hne.2.2.2.2.2.1, hne.2.2.2.2.1⟩
            have HPQ : Aside0 (w.heap.size ≤ q) := ⟨hne.2.2.2.2.2.2⟩
            have HREL := Aside0.mk hrel'
            have hld : (l.drop k).length = l.length - k := by simp
            have HLD := Aside0.mk hld
            clear hall hne hrel' hld x0 x1 x2
            go_wp2
            go_loopw [78] (fun i wr => ∃ (j : Nat) (bb : List Int) (ss : Nat) (SS LL : List Int), i = .int .i64 j ∧ j ≤ l.length - k ∧ Rel bb ss SS LL Z ∧ Aside0 (DiskAt wr p bb ss Z) ∧ Aside0 (RefAt wr gr SS LL Z) ∧ Aside0 (DiskAt wr q b s Z) ∧ Aside0 (RefAt wr gc S L Z) ∧ Aside0 (Below w.heap.size w wr)) (fun i _ => l.length - k - (intOf i).toNat)
            case atStart => exact ⟨0, b, s, S, L, rfl, by omega, HREL.out, ⟨HALL.out.1⟩, ⟨HALL.out.2.2.1⟩, ⟨HALL.out.2.1⟩, ⟨HALL.out.2.2.2.1⟩, ⟨HALL.out.2.2.2.2⟩⟩
            case round =>
              obtain ⟨j, bb, ss, SS, LL, rfl, hj, hrel2, HD, HF2, HDQ2, HRC2, HB⟩ := hrel
              by_cases hlt : j < l.length - k
              · have hlt' : j < (l.drop k).length := by rw [HLD.out]; exact hlt
                obtain ⟨x, hx⟩ : ∃ x, (l.drop k)[j]? = some x := ⟨_, List.getElem?_eq_getElem hlt'⟩
                have hxm : x ∈ l := List.mem_of_mem_drop (List.mem_of_getElem? hx)
                rcases hsd : stD x bb ss Z with ⟨b', s', eD⟩
                rcases hsr : stR x SS LL Z with ⟨S', L', eR⟩
                obtain ⟨hs1, hs2⟩ := step_rel x bb ss Z SS LL hrel2
                rw [hsd, hsr] at hs1 hs2
                simp only at hs1 hs2
                obtain ⟨hbe', hss', hbz'⟩ := hs1
                subst hss'
                have HBE := Aside0.mk hbe'
                have HSD := Aside0.mk hsd
                subst hs2
                have HW : Aside0 (x.f4.length ≤ 100 ∧ 0 ≤ x.f3 ∧ x.f3 < 256) := ⟨hfw x hxm, by have := bounds_u8 (hwf x hxm).2.2.2.1; omega⟩
                have HSR := Aside0.mk hsr
                obtain ⟨ad, A5, c5, e0, t0, t1, t2, t3, t4, hl5, hC5⟩ := at_do (Kd.C_below HCL.out HB.out) j x hx
                subst e0
                have HC5 := Aside0.mk hC5
                obtain ⟨A6, c6, A6', c6', hr6, hb6⟩ := HF2.out.open_
                have HR6 := Aside0.mk hr6
                have HB6 := Aside0.mk hb6
                have hb6a := blk_below hb6 (below_alloc (Below.refl _ _) (.cells #[.int .i64 x.f0, .int .i64 x.f1, .int .i64 x.f2, .int .u8 x.f3, .slice A5 x.f4.length c5] 40))
                have x0 := (blk_cell hb6a 0).trans rfl
                have x1 := (blk_cell hb6a 1).trans rfl
                have x2 := (blk_cell hb6a 2).trans rfl
                clear hb6a
                clear hr6 hb6
                have j1 : (j : Int) < (l.length : Int) - (k : Int) := by omega
                have j2 : ((l.length - k : Nat) : Int) = (l.length : Int) - (k : Int) := by omega
                have j3 : (j : Int) < ((l.length - k : Nat) : Int) := by omega
                have ne1 : ¬ gr = wr.heap.size := by have := blk_lt HB6.out; omega
                clear hsd hsr hbe' hC5 hx hxm hrel2 j2
                go_wp2_with (first | (go_at_call 18; (refine (does_calls p bb ss Z _ SS LL Z _ x _ (HD.out.below (below_alloc (Below.refl _ _) _)) (HR6.out.below (below_alloc (Below.refl _ _) _)) (k40_mk _ x hl5 (Kd.C_below HC5.out (below_alloc (Below.refl _ _) _))) HW.out.1 HW.out.2).mono ?_); rintro e w8 ⟨v8, rfl, hd8, hr8, hg8⟩; rw [HSD.out] at hd8 ⊢; rw [HSR.out] at hr8 ⊢; simp only at hd8 hr8 ⊢; rw [show (eR == eR) = true by simp]; have HD8 := Aside0.mk hd8; have HR8 := Aside0.mk hr8; have HG8 := Aside0.mk hg8; obtain ⟨A8, c8, A8', c8', ev8, _⟩ := hr8; subst ev8; have HK8 := Aside0.mk ((hg8.block gr (Nat.lt_of_lt_of_le (blk_lt HB6.out) (Below.size (below_alloc (Below.refl _ _) _))) (fun e => by injection e with e; exact HGR.out.2 e)).trans (blk_below HB6.out (below_alloc (Below.refl _ _) _))); have HB8 := Aside0.mk (below_gb (below_thenR (Nat.le_refl _) HB.out (below_alloc (Below.refl _ _) _)) (below_thenR (Nat.le_refl _) HB.out (below_alloc (Below.refl _ _) _)).size hg8 HP.out); have y0 := (blk_cell HK8.out 0).trans rfl; have y1 := (blk_cell HK8.out 1).trans rfl; have y2 := (blk_cell HK8.out 2).trans rfl; have g0 := blk_frozen HK8.out 0; have g1 := blk_frozen HK8.out 1; have g2 := blk_frozen HK8.out 2; have HF9 := Aside0.mk (fin3 (.slice A8 S'.length c8) (.slice A8' L'.length c8') (.int .i64 (Z : Int)) HD8.out HR8.out (grown_of_below HB8.out (some p)) HK8.out HGR.out.1 HGR.out.2); have HB9 := Aside0.mk (below_set (below_set (below_set HB8.out HGR.out.1 0 (.slice A8 S'.length c8)) HGR.out.1 1 (.slice A8' L'.length c8')) HGR.out.1 2 (.int .i64 (Z : Int))); have HPN := Aside0.mk (pair_next (.slice A8 S'.length c8) (.slice A8' L'.length c8') (.int .i64 (Z : Int)) (HD.out.below (below_alloc (Below.refl _ _) _)) (HDQ2.out.below (below_alloc (Below.refl _ _) _)) (HRC2.out.below (below_alloc (Below.refl _ _) _)) HG8.out HK8.out (fun e => HNE.out.2.2.1 e.symm) HNE.out.1 (fun e => HNE.out.2.2.2.1 e.symm) HNE.out.2.1); clear hd8 hg8))
                go_roundw
                case rel => exact ⟨j + 1, b', S'.length, S', L', by go_num, by omega, ⟨HBE.out, rfl, hbz'⟩, ⟨HF9.out.1⟩, ⟨⟨_, _, _, HF9.out.2.1, HF9.out.2.2.2⟩⟩, ⟨HPN.out.1⟩, ⟨HPN.out.2⟩, ⟨HB9.out⟩⟩
                case measure =>
                  simp [intOf]
                  omega
              · have hje : j = l.length - k := by omega
                have j3 : ¬ (j : Int) < ((l.length - k : Nat) : Int) := by omega
                have HST2 := Aside0.mk (And.intro HD.out (And.intro HF2.out (And.intro HDQ2.out (And.intro HRC2.out HB.out))))
                have HREL2 := Aside0.mk hrel2
                clear hrel2 hje HD HF2 HDQ2 HRC2 HB
                go_wp2
                go_loopw [17] (fun i wr => ∃ (m : Nat) (b3 : List Int) (s3 : Nat) (S3 L3 : List Int), i = .int .i64 ((m : Int) - 1) ∧ k ≤ m ∧ m ≤ l.length ∧ Rel b3 s3 S3 L3 Z ∧ Aside0 (DiskAt wr q b3 s3 Z) ∧ Aside0 (RefAt wr gc S3 L3 Z) ∧ Aside0 (DiskAt wr p bb ss Z) ∧ Aside0 (RefAt wr gr SS LL Z) ∧ Aside0 (Below w.heap.size w wr)) (fun i _ => ((intOf i) + 1).toNat)
                case atStart => exact ⟨l.length, b, s, S, L, by go_num, hkl, Nat.le_refl _, HREL.out, ⟨HST2.out.2.2.1⟩, ⟨HST2.out.2.2.2.1⟩, ⟨HST2.out.1⟩, ⟨HST2.out.2.1⟩, ⟨HST2.out.2.2.2.2⟩⟩
                case round =>
                  obtain ⟨m, b3, s3, S3, L3, hi, hm1, hm2, hrel3, HD, HF2, HDP2, HRR2, HB⟩ := hrel
                  by_cases hlt : k < m
                  · obtain ⟨n, rfl⟩ : ∃ n, m = n + 1 := ⟨m - 1, by omega⟩
                    have hi' := hi.trans (show Value.int .i64 (((n + 1 : Nat) : Int) - 1) = Value.int .i64 (n : Int) by congr 1; omega)
                    clear hi
                    subst hi'
                    have hlt' : n < l.length := by omega
                    obtain ⟨x, hx⟩ : ∃ x, (l)[n]? = some x := ⟨_, List.getElem?_eq_getElem hlt'⟩
                    have hxm : x ∈ l := List.mem_of_getElem? hx
                    rcases hsd : stD x b3 s3 Z with ⟨b', s', eD⟩
                    rcases hsr : stR x S3 L3 Z with ⟨S', L', eR⟩
                    obtain ⟨hs1, hs2⟩ := step_rel x b3 s3 Z S3 L3 hrel3
                    rw [hsd, hsr] at hs1 hs2
                    simp only at hs1 hs2
                    obtain ⟨hbe', hss', hbz'⟩ := hs1
                    subst hss'
                    have HBE := Aside0.mk hbe'
                    have HSD := Aside0.mk hsd
                    subst hs2
                    have HW : Aside0 (x.f4.length ≤ 100 ∧ 0 ≤ x.f3 ∧ x.f3 < 256) := ⟨hfw x hxm, by have := bounds_u8 (hwf x hxm).2.2.2.1; omega⟩
                    have HSR := Aside0.mk hsr
                    obtain ⟨ad, A5, c5, e0, t0, t1, t2, t3, t4, hl5, hC5⟩ := at_do HR.out n x hx
                    have HTT := Aside0.mk (And.intro t0 (And.intro t1 (And.intro t2 (And.intro t3 t4))))
                    have t0 := cell_below0 t0 HB.out
                    have t1 := cell_below0 t1 HB.out
                    have t2 := cell_below0 t2 HB.out
                    have t3 := cell_below0 t3 HB.out
                    have t4 := cell_below0 t4 HB.out
                    have hC5 := Kd.C_below hC5 HB.out
                    subst e0
                    have HC5 := Aside0.mk hC5
                    obtain ⟨A6, c6, A6', c6', hr6, hb6⟩ := HF2.out.open_
                    have HR6 := Aside0.mk hr6
                    have HB6 := Aside0.mk hb6
                    have x0 := (blk_cell hb6 0).trans rfl
                    have x1 := (blk_cell hb6 1).trans rfl
                    have x2 := (blk_cell hb6 2).trans rfl
                    clear hr6 hb6
                    have j1 : (n : Int) < (l.length : Int) := by omega
                    have j2 : decide ((k : Int) ≤ (n : Int)) = true := decide_eq_true (by omega)
                    have j3 : decide (k ≤ n) = true := decide_eq_true (by omega)
                    clear hsd hsr hbe' hC5 hx hxm hrel3
                    go_wp2
                    refine start_ (n := 11) (S := fun w' => w'.cell? (ad.add (n * 5)) = some (.int .i64 x.f0) ∧ w'.cell? ⟨(ad.add (n * 5)).block, (ad.add (n * 5)).off + 1, none⟩ = some (.int .i64 x.f1) ∧ w'.cell? ⟨(ad.add (n * 5)).block, (ad.add (n * 5)).off + 2, none⟩ = some (.int .i64 x.f2) ∧ w'.cell? ⟨(ad.add (n * 5)).block, (ad.add (n * 5)).off + 3, none⟩ = some (.int .u8 x.f3) ∧ w'.cell? ⟨(ad.add (n * 5)).block, (ad.add (n * 5)).off + 4, none⟩ = some (.slice A5 x.f4.length c5)) (ds := []) #[false, false, false, false, false, false, false, false, false, false, false] (by kernel_rfl) rfl rfl ⟨t0, t1, t2, t3, t4⟩ (fun hHeld => ?_)
                    refine with_tab rfl (fun HT_ => ?_)
                    have V22 := Aside0.mk (below_drew1 (Below.refl wr.heap.size wr))
                    have x0 : wr.drew.cell? ⟨gc, 0, none⟩ = some (.slice A6 S3.length c6) := x0
                    have x1 : wr.drew.cell? ⟨gc, 1, none⟩ = some (.slice A6' L3.length c6') := x1
                    have x2 : wr.drew.cell? ⟨gc, 2, none⟩ = some (.int .i64 (Z : Int)) := x2
                    clear t0 t1 t2 t3 t4
                    generalize wr.drew = w22 at V22 x0 x1 x2 hHeld ⊢
                    refine pure_ (i := 0) (N := some 99) (v := ?_) (a' := ?_) #[true, false, false, false, false, false, false, false, false, false, false] rfl rfl (any_of HT_.out (by kernel_rfl)) (fun _ _ _ h => h) (Or.inl ⟨by rfl, ?_⟩) ?_ ?_
                    rotate_left
                    · intro w'
                      go_simp
                      first | with_reducible rfl | rfl
                    rotate_left
                    · simp only [Act.put, List.setIfInBounds_toArray, List.set_cons_zero, List.set_cons_succ, i64_w, i32_w]
                      rfl
                    refine pure_ (i := 2) (N := some 101) (v := ?_) (a' := ?_) #[true, false, true, false, false, false, false, false, false, false, false] rfl rfl (any_of HT_.out (by kernel_rfl)) (fun _ _ _ h => h) (Or.inl ⟨by rfl, ?_⟩) ?_ ?_
                    rotate_left
                    · intro w'
                      go_simp
                      first | with_reducible rfl | rfl
                    rotate_left
                    · simp only [Act.put, List.setIfInBounds_toArray, List.set_cons_zero, List.set_cons_succ, i64_w, i32_w]
                      rfl
                    refine pure_ (i := 3) (N := some 102) (v := ?_) (a' := ?_) #[true, false, true, true, false, false, false, false, false, false, false] rfl rfl (any_of HT_.out (by kernel_rfl)) (fun _ _ _ h => h) (Or.inl ⟨by rfl, ?_⟩) ?_ ?_
                    rotate_left
                    · intro w'
                      go_simp
                      first | with_reducible rfl | rfl
                    rotate_left
                    · simp only [Act.put, List.setIfInBounds_toArray, List.set_cons_zero, List.set_cons_succ, i64_w, i32_w]
                      rfl
                    refine pure_ (i := 4) (N := some 103) (v := ?_) (a' := ?_) #[true, false, true, true, true, false, false, false, false, false, false] rfl rfl (any_of HT_.out (by kernel_rfl)) (fun _ _ _ h => h) (Or.inl ⟨by rfl, ?_⟩) ?_ ?_
                    rotate_left
                    · intro w'
                      go_simp
                      first | with_reducible rfl | rfl
                    rotate_left
                    · simp only [Act.put, List.setIfInBounds_toArray, List.set_cons_zero, List.set_cons_succ, i64_w, i32_w]
                      rfl
                    refine take_ (i := 5) (N := some 104) (v := ?_) (a' := ?_) #[true, false, true, true, true, true, false, false, false, false, false] rfl rfl (take_of HT_.out (by kernel_rfl)) (fun _ _ _ h => h) (Or.inl ⟨by rfl, ?_⟩) hHeld ?_ ?_
                    rotate_left
                    · rintro w' ⟨t0, t1, t2, t3, t4⟩
                      go_simp
                      first | with_reducible rfl | rfl
                    rotate_left
                    · simp only [Act.put, List.setIfInBounds_toArray, List.set_cons_zero, List.set_cons_succ, i64_w, i32_w]
                      rfl
                    refine one_ (i := 1) (N := some 100) #[true, true, true, true, true, true, false, false, false, false, false] rfl rfl (one_of HT_.out (by kernel_rfl)) (by decide) (fun K hK => ?_)
                    refine val_ (v := ?_) (w1 := w22) (by rfl) rfl ?_ ?_
                    rotate_left
                    · go_simp
                      first | rfl | exact ⟨rfl, rfl⟩
                    refine hK.out _ _ hHeld (fun hHeld => ?_)
                    clear hK K
                    refine norm_ (a' := ?_) ?_ ?_
                    rotate_left
                    · show Act.put _ (some 100) _ = _
                      simp only [Act.put, List.setIfInBounds_toArray, List.set_cons_zero, List.set_cons_succ, i64_w, i32_w]
                      rfl
                    refine one_ (i := 6) (N := some 105) #[true, true, true, true, true, true, true, false, false, false, false] rfl rfl (one_of HT_.out (by kernel_rfl)) (by decide) (fun K hK => ?_)
                    refine call_ 18 _ (by rfl) rfl (by go_simp; rfl) ?_
                    (refine (does_calls q b3 s3 Z _ S3 L3 Z _ x _ (HD.out.below V22.out) (HR6.out.below V22.out) (k40_mk _ x hl5 (Kd.C_below HC5.out V22.out)) HW.out.1 HW.out.2).mono ?_); rintro e w8 ⟨v8, rfl, hd8, hr8, hg8⟩; rw [HSD.out] at hd8 ⊢; rw [HSR.out] at hr8 ⊢; simp only at hd8 hr8 ⊢; rw [show (eR == eR) = true by simp]; have HD8 := Aside0.mk hd8; have HR8 := Aside0.mk hr8; have HG8 := Aside0.mk hg8; obtain ⟨A8, c8, A8', c8', ev8, _⟩ := hr8; subst ev8; have HK8 := Aside0.mk ((hg8.block gc (Nat.lt_of_lt_of_le (blk_lt HB6.out) (Below.size V22.out)) (fun e => by injection e with e; exact HGC.out.2 e)).trans (blk_below HB6.out V22.out)); have HB8 := Aside0.mk (below_gb (below_thenR (Nat.le_refl _) HB.out V22.out) (below_thenR (Nat.le_refl _) HB.out V22.out).size hg8 HPQ.out); have y0 := (blk_cell HK8.out 0).trans rfl; have y1 := (blk_cell HK8.out 1).trans rfl; have y2 := (blk_cell HK8.out 2).trans rfl; have g0 := blk_frozen HK8.out 0; have g1 := blk_frozen HK8.out 1; have g2 := blk_frozen HK8.out 2; have HF9 := Aside0.mk (fin3 (.slice A8 S'.length c8) (.slice A8' L'.length c8') (.int .i64 (Z : Int)) HD8.out HR8.out (grown_of_below HB8.out (some q)) HK8.out HGC.out.1 HGC.out.2); have HB9 := Aside0.mk (below_set (below_set (below_set HB8.out HGC.out.1 0 (.slice A8 S'.length c8)) HGC.out.1 1 (.slice A8' L'.length c8')) HGC.out.1 2 (.int .i64 (Z : Int))); have HPN := Aside0.mk (pair_next (.slice A8 S'.length c8) (.slice A8' L'.length c8') (.int .i64 (Z : Int)) (HD.out.below V22.out) (HDP2.out.below V22.out) (HRR2.out.below V22.out) HG8.out HK8.out HNE.out.2.2.1 (fun e => HNE.out.2.2.2.1 e.symm) HNE.out.1 (fun e => HNE.out.2.1 e.symm)); clear hd8 hg8
                    refine ⟨_, rfl, ?_⟩
                    refine hK.out _ _ ⟨cell_below0 HTT.out.1 HB8.out, cell_below0 HTT.out.2.1 HB8.out, cell_below0 HTT.out.2.2.1 HB8.out, cell_below0 HTT.out.2.2.2.1 HB8.out, cell_below0 HTT.out.2.2.2.2 HB8.out⟩ (fun hHeld => ?_)
                    clear hK K
                    refine norm_ (a' := ?_) ?_ ?_
                    rotate_left
                    · show Act.put _ (some 105) _ = _
                      simp only [Act.put, List.setIfInBounds_toArray, List.set_cons_zero, List.set_cons_succ, i64_w, i32_w]
                      rfl
                    refine pure_ (i := 7) (N := some 98) (v := ?_) (a' := ?_) #[true, true, true, true, true, true, true, true, false, false, false] rfl rfl (any_of HT_.out (by kernel_rfl)) (fun _ _ _ h => h) (Or.inl ⟨by rfl, ?_⟩) ?_ ?_
                    rotate_left
                    · intro w'
                      go_simp
                      first | with_reducible rfl | rfl
                    rotate_left
                    · simp only [Act.put, List.setIfInBounds_toArray, List.set_cons_zero, List.set_cons_succ, i64_w, i32_w]
                      rfl
                    refine pure_ (i := 8) (N := some 106) (v := ?_) (a' := ?_) #[true, true, true, true, true, true, true, true, true, false, false] rfl rfl (any_of HT_.out (by kernel_rfl)) (fun _ _ _ h => h) (Or.inl ⟨by rfl, ?_⟩) ?_ ?_
                    rotate_left
                    · intro w'
                      go_simp
                      first | with_reducible rfl | rfl
                    rotate_left
                    · simp only [Act.put, List.setIfInBounds_toArray, List.set_cons_zero, List.set_cons_succ, i64_w, i32_w]
                      rfl
                    refine pure_ (i := 9) (N := some 107) (v := ?_) (a' := ?_) #[true, true, true, true, true, true, true, true, true, true, false] rfl rfl (any_of HT_.out (by kernel_rfl)) (fun _ _ _ h => h) (Or.inl ⟨by rfl, ?_⟩) ?_ ?_
                    rotate_left
                    · intro w'
                      go_simp
                      first | with_reducible rfl | rfl
                    rotate_left
                    · simp only [Act.put, List.setIfInBounds_toArray, List.set_cons_zero, List.set_cons_succ, i64_w, i32_w]
                      rfl
                    refine one_ (i := 10) (N := none) #[true, true, true, true, true, true, true, true, true, true, true] rfl rfl (one_of HT_.out (by kernel_rfl)) (by decide) (fun K hK => ?_)
                    refine skip_ (w1 := ?_) (by rfl) rfl ?_ ?_
                    rotate_left
                    · go_simp
                      rfl
                    refine hK.out _ _ ⟨cell_below0 HTT.out.1 HB9.out, cell_below0 HTT.out.2.1 HB9.out, cell_below0 HTT.out.2.2.1 HB9.out, cell_below0 HTT.out.2.2.2.1 HB9.out, cell_below0 HTT.out.2.2.2.2 HB9.out⟩ (fun hHeld => ?_)
                    clear hK K
                    refine done_ (done_of HT_.out (by kernel_rfl)) ?_
                    go_wp2
                    refine ⟨⟨n, b', S'.length, S', L', rfl, by omega, by omega, ⟨HBE.out, rfl, hbz'⟩, ⟨HF9.out.1⟩, ⟨⟨_, _, _, HF9.out.2.1, HF9.out.2.2.2⟩⟩, ⟨HPN.out.1⟩, ⟨HPN.out.2⟩, ⟨HB9.out⟩⟩, ?_⟩
                    simp [intOf]
                  · have hme : m = k := by omega
                    subst hme
                    subst hi
                    have hbs := HREL2.out.1
                    have hss2 := HREL2.out.2.1
                    have hb3 := hrel3.1
                    have hs3 := hrel3.2.1
                    subst hss2
                    subst hs3
                    have HBE1 := Aside0.mk hbs
                    have HBE2 := Aside0.mk hb3
                    have j2 : decide ((m : Int) ≤ (m : Int) - 1) = false := decide_eq_false (by omega)
                    obtain ⟨A6, c6, A6', c6', hr6, hb6⟩ := HRR2.out.open_
                    have HR6 := Aside0.mk hr6
                    have HB6 := Aside0.mk hb6
                    have x0 := (blk_cell hb6 0).trans rfl
                    have x1 := (blk_cell hb6 1).trans rfl
                    have x2 := (blk_cell hb6 2).trans rfl
                    clear hr6 hb6
                    clear hbs hb3 hrel3
                    go_wp2_with (first | (go_at_call 19; have hh := HI1.out; (refine (is_calls q b3 Z _ S3 L3 _ HD9.out HR7.out HBE2.out).mono ?_); rintro e w10 ⟨rfl, hb10⟩; have HB10 := Aside0.mk (below_thenR (Nat.le_refl _) HB9.out hb10); clear hb10 hh) | (go_at_call 19; (refine (is_calls p bb Z _ SS LL _ HDP2.out HR6.out HBE1.out).mono ?_); rintro e w9 ⟨rfl, hb9⟩; have HI1 := Aside0.mk hb9; have HD9 := Aside0.mk (HD.out.below hb9); obtain ⟨A7, c7, A7', c7', hr7, hb7⟩ := (HF2.out.below hb9).open_; have HR7 := Aside0.mk hr7; have x3 := (blk_cell hb7 0).trans rfl; have x4 := (blk_cell hb7 1).trans rfl; have x5 := (blk_cell hb7 2).trans rfl; have HB9 := Aside0.mk (below_thenR (Nat.le_refl _) HB.out hb9); clear hb9 hr7 hb7) | (go_at_call 11; (with_reducible refine (awake_calls _).mono ?_); rintro e w2 ⟨rfl, hb2⟩; have HB2 := Aside0.mk (below_then (show Below w.heap.size w _ by repeat (first | exact HB10.out | apply pw_below_drewN | apply below_drew1)) (Below.size (show Below w.heap.size w _ by repeat (first | exact HB10.out | apply pw_below_drewN | apply below_drew1))) hb2); clear hb2))
                    go_ret
                    exact ⟨rfl, HB2.out⟩
  · have hf0 : fewS l = false := by simpa using hf
    have HF := Aside0.mk hf0
    clear hf hf0 hr0
    go_enter Try.func8, Try.ntmps8
    go_wp2_with (first | (go_at_call 16; (with_reducible refine (few_calls A0 c0 l _ HR.out hc0 (by omega)).mono ?_); rintro e w1 ⟨rfl, hb1⟩; rw [HF.out]; have HB1 := Aside0.mk hb1; clear hb1) | (go_at_call 11; (with_reducible refine (awake_calls _).mono ?_); rintro e w2 ⟨rfl, hb2⟩; have HB2 := Aside0.mk (below_then (show Below w.heap.size w _ by repeat (first | exact HB1.out | apply pw_below_drewN | apply below_drew1)) (Below.size (show Below w.heap.size w _ by repeat (first | exact HB1.out | apply pw_below_drewN | apply below_drew1))) hb2); clear hb2))
    go_ret
    exact ⟨rfl, HB2.out⟩
end Go.Proofs.Ytpaphcoloogdlaa.Dk
