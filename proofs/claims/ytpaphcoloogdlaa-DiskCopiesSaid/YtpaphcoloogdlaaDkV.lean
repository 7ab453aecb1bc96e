/- One step in both: a disk and the document's. -/
import Derived.Test.YtpaphcoloogdlaaDkU
namespace Go.Proofs.Ytpaphcoloogdlaa.Dk
open Go.RowKit Go.Proofs.YtpaphcoloogdlaaW.PrintWords Go.Proofs.YtpaphcoloogdlaaW.PrintLast Go.Proofs.YtpaphcoloogdlaaW.PrintMore Go.Proofs.Ytpaphcoloogdlaa.Kit Go.Proofs.Ytpaphcoloogdlaa.PDiskPlays
set_option linter.unusedVariables false
set_option linter.unusedSimpArgs false
abbrev Rf := RfX (fun _ => False)
theorem DiskAt.lt {w : World} {p : Nat} {b : List Int} {s z : Nat} (h : DiskAt w p b s z) : p < w.heap.size := by
  obtain ⟨A, c, h⟩ := h
  exact h.lt
theorem DiskAt.set {w : World} {p g t : Nat} {cs : Array Value} {b : List Int} {s z : Nat} (h : DiskAt w p b s z) (hb : w.heap[g]? = some (.cells cs t (0, 0))) (ht : t ≠ 5) (hne : g ≠ p) (j : Nat) (v : Value) : DiskAt (w.setCell ⟨g, j, none⟩ v) p b s z := by
  obtain ⟨A, c, h⟩ := h
  refine ⟨A, c, h.grown (grown_set w g j v) fun k e => ?_⟩
  injection e with e
  subst e
  refine ⟨hne, fun cs' hc => ?_⟩
  rw [hb] at hc
  injection hc with hc
  injection hc with _ e5
  exact ht e5
theorem RfX.set {X : Nat → Prop} {w : World} {g t : Nat} {cs : Array Value} {v : Value} {S L : List Int} {z : Nat} (h : RfX X w v S L z) (hb : w.heap[g]? = some (.cells cs t (0, 0))) (ht : t ≠ 5) (j : Nat) (u : Value) : RfX X (w.setCell ⟨g, j, none⟩ u) v S L z :=
  h.disk (grown_set w g j u) hb ht
theorem RfX.at_disk {X : Nat → Prop} {w w1 : World} {p : Nat} {b : List Int} {s z : Nat} {v : Value} {S L : List Int} {zr : Nat} (h : RfX X w v S L zr) (hd : DiskAt w p b s z) (hg : w.grownBy w1 (some p)) : RfX X w1 v S L zr := by
  obtain ⟨A, c, hd⟩ := hd
  exact h.disk hg hd.blk (by decide)
theorem fin3 {X : Nat → Prop} {w w9 : World} {p g : Nat} {b : List Int} {s z : Nat} {v : Value} {S L : List Int} {zr : Nat} {a0 a1 a2 : Value} (v0 v1 v2 : Value) (hd : DiskAt w9 p b s z) (hr : RfX X w9 v S L zr) (hg : w.grownBy w9 (some p)) (hb : w9.heap[g]? = some (.cells #[a0, a1, a2] 36 (0, 0))) (hn : w.heap.size ≤ g) (hne : g ≠ p) :
    DiskAt (((w9.setCell ⟨g, 0, none⟩ v0).setCell ⟨g, 1, none⟩ v1).setCell ⟨g, 2, none⟩ v2) p b s z ∧ RfX X (((w9.setCell ⟨g, 0, none⟩ v0).setCell ⟨g, 1, none⟩ v1).setCell ⟨g, 2, none⟩ v2) v S L zr ∧ w.grownBy (((w9.setCell ⟨g, 0, none⟩ v0).setCell ⟨g, 1, none⟩ v1).setCell ⟨g, 2, none⟩ v2) (some p) ∧ (((w9.setCell ⟨g, 0, none⟩ v0).setCell ⟨g, 1, none⟩ v1).setCell ⟨g, 2, none⟩ v2).heap[g]? = some (.cells #[v0, v1, v2] 36 (0, 0)) := by
  have q3 := blk_put hb 0 v0 rfl
  have q4 := blk_put q3 1 v1 rfl
  have q5 := blk_put q4 2 v2 rfl
  exact ⟨((hd.set hb (by decide) hne _ _).set q3 (by decide) hne _ _).set q4 (by decide) hne _ _, ((hr.set hb (by decide) _ _).set q3 (by decide) _ _).set q4 (by decide) _ _, gb_set2 (gb_set2 (gb_set2 hg hn _ _) hn _ _) hn _ _, q5⟩
set_option maxHeartbeats 4000000 in
set_option maxRecDepth 100000 in
theorem does_1 (p : Nat) (b : List Int) (s z : Nat) (v : Value) (S L : List Int) (zr : Nat) (cs : List Value) (x : S40) (w : World) (hd : DiskAt w p b s z) (hr : Rf w v S L zr) (hK : k40.K w x cs) (hB : x.f4.length ≤ 100) (hv : x.f0 = 1) :
    Calls Try.prog 18 #[.pointer (some ⟨p, 0, none⟩), v, .agg cs.toArray] w fun e w' => ∃ v', e = .returned (.tuple #[v', .bool true]) ∧ DiskAt w' p b b.length z ∧ Rf w' v' (S ++ L) [] zr ∧ w.grownBy w' (some p) := by
  obtain ⟨vb, n, t, y, B⟩ := x
  obtain ⟨A4, c4, rfl, hl4, hC4⟩ := k40_open hK
  obtain ⟨A, c, A', c', rfl, h1, h2, h3, h4⟩ := hr
  simp only at hB hl4 hC4 hv
  have HD := Aside0.mk hd
  have HR := Aside0.mk (show Rf w _ S L zr from ⟨A, c, A', c', rfl, h1, h2, h3, h4⟩)
  have HB := Aside0.mk hC4
  have HLT : Aside0 (p < w.heap.size) := ⟨hd.lt⟩
  clear hd h1 h2 hC4 hK
  subst hv
  go_enter Try.func18, Try.ntmps18
  go_wp2_with (first | ((with_reducible refine gate_dst (N := 19) rfl ?_); refine lit_event (w0 := ((w.alloc _).alloc _).alloc _) _ rfl (N := 19) rfl .u8 5 [] ?hr (Below.refl _ _) (Nat.le_refl _) (by simp) ?_; (case hr => first | (go_simp; done) | (go_simp; rfl) | (go_simp; exact ⟨rfl, rfl⟩)); intro v5 w5 ho5 hb5 hbb5; have HO5 := Aside0.mk ho5; have HB5 := Aside0.mk hb5; have x0 := (blk_cell (three_blks (grown_of_below hb5 (some p)) HLT.out).1 0).trans rfl; have x1 := (blk_cell (three_blks (grown_of_below hb5 (some p)) HLT.out).1 1).trans rfl; have x2 := (blk_cell (three_blks (grown_of_below hb5 (some p)) HLT.out).1 2).trans rfl; have y0 := (blk_cell (three_blks (grown_of_below hb5 (some p)) HLT.out).2.1 0).trans rfl; have y1 := (blk_cell (three_blks (grown_of_below hb5 (some p)) HLT.out).2.1 1).trans rfl; have y2 := (blk_cell (three_blks (grown_of_below hb5 (some p)) HLT.out).2.1 2).trans rfl; have y3 := (blk_cell (three_blks (grown_of_below hb5 (some p)) HLT.out).2.1 3).trans rfl; have y4 := (blk_cell (three_blks (grown_of_below hb5 (some p)) HLT.out).2.1 4).trans rfl; have u0 := (blk_cell (three_blks (grown_of_below hb5 (some p)) HLT.out).2.2 0).trans rfl; have u1 := (blk_cell (three_blks (grown_of_below hb5 (some p)) HLT.out).2.2 1).trans rfl; have u2 := (blk_cell (three_blks (grown_of_below hb5 (some p)) HLT.out).2.2 2).trans rfl; have e0 := blk_frozen (three_blks (grown_of_below hb5 (some p)) HLT.out).2.2 0; have e1 := blk_frozen (three_blks (grown_of_below hb5 (some p)) HLT.out).2.2 1; have e2 := blk_frozen (three_blks (grown_of_below hb5 (some p)) HLT.out).2.2 2; clear ho5 hb5 hbb5) | ((with_reducible refine gate_dst (N := 22) rfl ?_); refine appN_event (w0 := ((w.alloc _).alloc _).alloc _) _ rfl (N := 22) rfl .u8 _ _ 26 5 (.int .u8 0) 1 rfl Try.underlying26 info5 rfl (by omega) v5 [] B A4 B.length c4 rfl rfl HO5.out (Kd.C_below HB.out (below_thenR (Nat.le_refl _) (below_three _ _ _ _) HB5.out)) HB5.out HB5.out.size (by simp; omega) ?_; intro v6 w6 ho6 hb6 hg6; rw [List.nil_append] at ho6; have HO6 := Aside0.mk ho6; have HB6 := Aside0.mk hb6; have HG6 := Aside0.mk (grown_of_below hb6 (some p)); have HW6 := Aside0.mk (below_thenR (Nat.le_refl _) (below_three _ _ _ _) hb6); have x0 := (blk_cell (three_blks HG6.out HLT.out).1 0).trans rfl; have x1 := (blk_cell (three_blks HG6.out HLT.out).1 1).trans rfl; have x2 := (blk_cell (three_blks HG6.out HLT.out).1 2).trans rfl; have y0 := (blk_cell (three_blks HG6.out HLT.out).2.1 0).trans rfl; have y1 := (blk_cell (three_blks HG6.out HLT.out).2.1 1).trans rfl; have y2 := (blk_cell (three_blks HG6.out HLT.out).2.1 2).trans rfl; have y3 := (blk_cell (three_blks HG6.out HLT.out).2.1 3).trans rfl; have y4 := (blk_cell (three_blks HG6.out HLT.out).2.1 4).trans rfl; have u0 := (blk_cell (three_blks HG6.out HLT.out).2.2 0).trans rfl; have u1 := (blk_cell (three_blks HG6.out HLT.out).2.2 1).trans rfl; have u2 := (blk_cell (three_blks HG6.out HLT.out).2.2 2).trans rfl; have e0 := blk_frozen (three_blks HG6.out HLT.out).2.2 0; have e1 := blk_frozen (three_blks HG6.out HLT.out).2.2 1; have e2 := blk_frozen (three_blks HG6.out HLT.out).2.2 2; clear ho6 hb6 hg6) | (go_at_call 23; (with_reducible refine (sync_calls p b s z _ (HD.out.below HW6.out)).mono ?_); rintro e w8 ⟨rfl, hd8, hg8⟩; have HD8 := Aside0.mk hd8; have HR8 := Aside0.mk ((HR.out.below HW6.out).at_disk (HD.out.below HW6.out) hg8); have HG8 := Aside0.mk (HG6.out.trans hg8); have x0 := (blk_cell (three_blks HG8.out HLT.out).1 0).trans rfl; have x1 := (blk_cell (three_blks HG8.out HLT.out).1 1).trans rfl; have x2 := (blk_cell (three_blks HG8.out HLT.out).1 2).trans rfl; have y0 := (blk_cell (three_blks HG8.out HLT.out).2.1 0).trans rfl; have y1 := (blk_cell (three_blks HG8.out HLT.out).2.1 1).trans rfl; have y2 := (blk_cell (three_blks HG8.out HLT.out).2.1 2).trans rfl; have y3 := (blk_cell (three_blks HG8.out HLT.out).2.1 3).trans rfl; have y4 := (blk_cell (three_blks HG8.out HLT.out).2.1 4).trans rfl; have u0 := (blk_cell (three_blks HG8.out HLT.out).2.2 0).trans rfl; have u1 := (blk_cell (three_blks HG8.out HLT.out).2.2 1).trans rfl; have u2 := (blk_cell (three_blks HG8.out HLT.out).2.2 2).trans rfl; have e0 := blk_frozen (three_blks HG8.out HLT.out).2.2 0; have e1 := blk_frozen (three_blks HG8.out HLT.out).2.2 1; have e2 := blk_frozen (three_blks HG8.out HLT.out).2.2 2; clear hd8 hg8) | (go_at_call 27; refine (rsync_calls _ S L zr _ HR8.out (fun k hk => hk.elim)).mono ?_; rintro e w9 ⟨v9, rfl, hr9, hb9⟩; have HR9 := Aside0.mk hr9; obtain ⟨A9, c9, A9', c9', ev9, _⟩ := hr9; subst ev9; have HD9 := Aside0.mk (HD8.out.below hb9); have HG9 := Aside0.mk (gb_below HG8.out hb9); have x0 := (blk_cell (three_blks HG9.out HLT.out).1 0).trans rfl; have x1 := (blk_cell (three_blks HG9.out HLT.out).1 1).trans rfl; have x2 := (blk_cell (three_blks HG9.out HLT.out).1 2).trans rfl; have y0 := (blk_cell (three_blks HG9.out HLT.out).2.1 0).trans rfl; have y1 := (blk_cell (three_blks HG9.out HLT.out).2.1 1).trans rfl; have y2 := (blk_cell (three_blks HG9.out HLT.out).2.1 2).trans rfl; have y3 := (blk_cell (three_blks HG9.out HLT.out).2.1 3).trans rfl; have y4 := (blk_cell (three_blks HG9.out HLT.out).2.1 4).trans rfl; have u0 := (blk_cell (three_blks HG9.out HLT.out).2.2 0).trans rfl; have u1 := (blk_cell (three_blks HG9.out HLT.out).2.2 1).trans rfl; have u2 := (blk_cell (three_blks HG9.out HLT.out).2.2 2).trans rfl; have e0 := blk_frozen (three_blks HG9.out HLT.out).2.2 0; have e1 := blk_frozen (three_blks HG9.out HLT.out).2.2 1; have e2 := blk_frozen (three_blks HG9.out HLT.out).2.2 2; clear hb9))
  obtain ⟨f1, f2, f3, f4⟩ := fin3 (.slice A9 (S.length + L.length) c9) (.slice A9' 0 c9') (.int .i64 (zr : Int)) HD9.out HR9.out (gb_three HG9.out) (three_blks HG9.out HLT.out).2.2 (by omega) (by have := HLT.out; omega)
  refine bodyPost_ret (results_ct rfl _ _ (w.heap.size + 1 + 1) 36 _ (0, 0) _ rfl f4 Try.underlying36 rfl (by kernel_rfl)) rfl ?_
  refine ⟨_, rfl, f1, ?_, f3⟩
  simpa using f2
set_option maxHeartbeats 4000000 in
set_option maxRecDepth 100000 in
theorem does_x (p : Nat) (b : List Int) (s z : Nat) (v : Value) (S L : List Int) (zr : Nat) (cs : List Value) (x : S40) (w : World) (hd : DiskAt w p b s z) (hr : Rf w v S L zr) (hK : k40.K w x cs) (hB : x.f4.length ≤ 100) (hv : x.f0 ≠ 0 ∧ x.f0 ≠ 1 ∧ x.f0 ≠ 2 ∧ x.f0 ≠ 3 ∧ x.f0 ≠ 4) :
    Calls Try.prog 18 #[.pointer (some ⟨p, 0, none⟩), v, .agg cs.toArray] w fun e w' => ∃ v', e = .returned (.tuple #[v', .bool true]) ∧ DiskAt w' p b s z ∧ Rf w' v' S L zr ∧ w.grownBy w' (some p) := by
  obtain ⟨vb, n, t, y, B⟩ := x
  obtain ⟨A4, c4, rfl, hl4, hC4⟩ := k40_open hK
  obtain ⟨A, c, A', c', rfl, h1, h2, h3, h4⟩ := hr
  simp only at hB hl4 hC4 hv
  have HD := Aside0.mk hd
  have HR := Aside0.mk (show Rf w _ S L zr from ⟨A, c, A', c', rfl, h1, h2, h3, h4⟩)
  have HB := Aside0.mk hC4
  have HLT : Aside0 (p < w.heap.size) := ⟨hd.lt⟩
  clear hd h1 h2 hC4 hK
  obtain ⟨v0, v1, v2, v3, v4⟩ := hv
  have g0 : (vb == 0) = false := by simpa using v0
  have g1 : (vb == 1) = false := by simpa using v1
  have g2 : (vb == 2) = false := by simpa using v2
  have g3 : (vb == 3) = false := by simpa using v3
  have g4 : (vb == 4) = false := by simpa using v4
  go_enter Try.func18, Try.ntmps18
  go_wp2_with (first | ((with_reducible refine gate_dst (N := 19) rfl ?_); refine lit_event (w0 := ((w.alloc _).alloc _).alloc _) _ rfl (N := 19) rfl .u8 5 [] ?hr (Below.refl _ _) (Nat.le_refl _) (by simp) ?_; (case hr => first | (go_simp; done) | (go_simp; rfl) | (go_simp; exact ⟨rfl, rfl⟩)); intro v5 w5 ho5 hb5 hbb5; have HO5 := Aside0.mk ho5; have HB5 := Aside0.mk hb5; have x0 := (blk_cell (three_blks (grown_of_below hb5 (some p)) HLT.out).1 0).trans rfl; have x1 := (blk_cell (three_blks (grown_of_below hb5 (some p)) HLT.out).1 1).trans rfl; have x2 := (blk_cell (three_blks (grown_of_below hb5 (some p)) HLT.out).1 2).trans rfl; have y0 := (blk_cell (three_blks (grown_of_below hb5 (some p)) HLT.out).2.1 0).trans rfl; have y1 := (blk_cell (three_blks (grown_of_below hb5 (some p)) HLT.out).2.1 1).trans rfl; have y2 := (blk_cell (three_blks (grown_of_below hb5 (some p)) HLT.out).2.1 2).trans rfl; have y3 := (blk_cell (three_blks (grown_of_below hb5 (some p)) HLT.out).2.1 3).trans rfl; have y4 := (blk_cell (three_blks (grown_of_below hb5 (some p)) HLT.out).2.1 4).trans rfl; have u0 := (blk_cell (three_blks (grown_of_below hb5 (some p)) HLT.out).2.2 0).trans rfl; have u1 := (blk_cell (three_blks (grown_of_below hb5 (some p)) HLT.out).2.2 1).trans rfl; have u2 := (blk_cell (three_blks (grown_of_below hb5 (some p)) HLT.out).2.2 2).trans rfl; have e0 := blk_frozen (three_blks (grown_of_below hb5 (some p)) HLT.out).2.2 0; have e1 := blk_frozen (three_blks (grown_of_below hb5 (some p)) HLT.out).2.2 1; have e2 := blk_frozen (three_blks (grown_of_below hb5 (some p)) HLT.out).2.2 2; clear ho5 hb5 hbb5) | ((with_reducible refine gate_dst (N := 22) rfl ?_); refine appN_event (w0 := ((w.alloc _).alloc _).alloc _) _ rfl (N := 22) rfl .u8 _ _ 26 5 (.int .u8 0) 1 rfl Try.underlying26 info5 rfl (by omega) v5 [] B A4 B.length c4 rfl rfl HO5.out (Kd.C_below HB.out (below_thenR (Nat.le_refl _) (below_three _ _ _ _) HB5.out)) HB5.out HB5.out.size (by simp; omega) ?_; intro v6 w6 ho6 hb6 hg6; rw [List.nil_append] at ho6; have HO6 := Aside0.mk ho6; have HB6 := Aside0.mk hb6; have HG6 := Aside0.mk (grown_of_below hb6 (some p)); have HW6 := Aside0.mk (below_thenR (Nat.le_refl _) (below_three _ _ _ _) hb6); have x0 := (blk_cell (three_blks HG6.out HLT.out).1 0).trans rfl; have x1 := (blk_cell (three_blks HG6.out HLT.out).1 1).trans rfl; have x2 := (blk_cell (three_blks HG6.out HLT.out).1 2).trans rfl; have y0 := (blk_cell (three_blks HG6.out HLT.out).2.1 0).trans rfl; have y1 := (blk_cell (three_blks HG6.out HLT.out).2.1 1).trans rfl; have y2 := (blk_cell (three_blks HG6.out HLT.out).2.1 2).trans rfl; have y3 := (blk_cell (three_blks HG6.out HLT.out).2.1 3).trans rfl; have y4 := (blk_cell (three_blks HG6.out HLT.out).2.1 4).trans rfl; have u0 := (blk_cell (three_blks HG6.out HLT.out).2.2 0).trans rfl; have u1 := (blk_cell (three_blks HG6.out HLT.out).2.2 1).trans rfl; have u2 := (blk_cell (three_blks HG6.out HLT.out).2.2 2).trans rfl; have e0 := blk_frozen (three_blks HG6.out HLT.out).2.2 0; have e1 := blk_frozen (three_blks HG6.out HLT.out).2.2 1; have e2 := blk_frozen (three_blks HG6.out HLT.out).2.2 2; clear ho6 hb6 hg6))
  obtain ⟨f1, f2, f3, f4⟩ := fin3 (.slice A S.length c) (.slice A' L.length c') (.int .i64 (zr : Int)) (HD.out.below HW6.out) (HR.out.below HW6.out) (gb_three HG6.out) (three_blks HG6.out HLT.out).2.2 (by omega) (by have := HLT.out; omega)
  refine bodyPost_ret (results_ct rfl _ _ (w.heap.size + 1 + 1) 36 _ (0, 0) _ rfl f4 Try.underlying36 rfl (by kernel_rfl)) rfl ?_
  exact ⟨_, rfl, f1, f2, f3⟩
set_option maxHeartbeats 4000000 in
set_option maxRecDepth 100000 in
theorem does_4 (p : Nat) (b : List Int) (s z : Nat) (v : Value) (S L : List Int) (zr : Nat) (cs : List Value) (x : S40) (w : World) (hd : DiskAt w p b s z) (hr : Rf w v S L zr) (hK : k40.K w x cs) (hB : x.f4.length ≤ 100) (hy : 0 ≤ x.f3 ∧ x.f3 < 256) (hv : x.f0 = 4) :
    Calls Try.prog 18 #[.pointer (some ⟨p, 0, none⟩), v, .agg cs.toArray] w fun e w' => ∃ v', e = .returned (.tuple #[v', .bool true]) ∧ DiskAt w' p (crashB b s x.f1 x.f2 x.f3) (crashB b s x.f1 x.f2 x.f3).length z ∧ Rf w' v' (S ++ crashP L x.f2 x.f3 (keptL L x.f1)) [] zr ∧ w.grownBy w' (some p) := by
  obtain ⟨vb, n, t, y, B⟩ := x
  obtain ⟨A4, c4, rfl, hl4, hC4⟩ := k40_open hK
  obtain ⟨A, c, A', c', rfl, h1, h2, h3, h4⟩ := hr
  simp only at hB hl4 hC4 hv hy ⊢
  have HD := Aside0.mk hd
  have HR := Aside0.mk (show Rf w _ S L zr from ⟨A, c, A', c', rfl, h1, h2, h3, h4⟩)
  have HB := Aside0.mk hC4
  have HLT : Aside0 (p < w.heap.size) := ⟨hd.lt⟩
  clear hd h1 h2 hC4 hK
  subst hv
  generalize hcb : crashB b s n t y = cb
  have HCB := Aside0.mk hcb
  generalize hcp : S ++ crashP L t y (keptL L n) = cp
  have HCP := Aside0.mk hcp
  clear hcb hcp
  go_enter Try.func18, Try.ntmps18
  go_wp2_with (first | ((with_reducible refine gate_dst (N := 19) rfl ?_); refine lit_event (w0 := ((w.alloc _).alloc _).alloc _) _ rfl (N := 19) rfl .u8 5 [] ?hr (Below.refl _ _) (Nat.le_refl _) (by simp) ?_; (case hr => first | (go_simp; done) | (go_simp; rfl) | (go_simp; exact ⟨rfl, rfl⟩)); intro v5 w5 ho5 hb5 hbb5; have HO5 := Aside0.mk ho5; have HB5 := Aside0.mk hb5; have x0 := (blk_cell (three_blks (grown_of_below hb5 (some p)) HLT.out).1 0).trans rfl; have x1 := (blk_cell (three_blks (grown_of_below hb5 (some p)) HLT.out).1 1).trans rfl; have x2 := (blk_cell (three_blks (grown_of_below hb5 (some p)) HLT.out).1 2).trans rfl; have y0 := (blk_cell (three_blks (grown_of_below hb5 (some p)) HLT.out).2.1 0).trans rfl; have y1 := (blk_cell (three_blks (grown_of_below hb5 (some p)) HLT.out).2.1 1).trans rfl; have y2 := (blk_cell (three_blks (grown_of_below hb5 (some p)) HLT.out).2.1 2).trans rfl; have y3 := (blk_cell (three_blks (grown_of_below hb5 (some p)) HLT.out).2.1 3).trans rfl; have y4 := (blk_cell (three_blks (grown_of_below hb5 (some p)) HLT.out).2.1 4).trans rfl; have u0 := (blk_cell (three_blks (grown_of_below hb5 (some p)) HLT.out).2.2 0).trans rfl; have u1 := (blk_cell (three_blks (grown_of_below hb5 (some p)) HLT.out).2.2 1).trans rfl; have u2 := (blk_cell (three_blks (grown_of_below hb5 (some p)) HLT.out).2.2 2).trans rfl; have e0 := blk_frozen (three_blks (grown_of_below hb5 (some p)) HLT.out).2.2 0; have e1 := blk_frozen (three_blks (grown_of_below hb5 (some p)) HLT.out).2.2 1; have e2 := blk_frozen (three_blks (grown_of_below hb5 (some p)) HLT.out).2.2 2; clear ho5 hb5 hbb5) | ((with_reducible refine gate_dst (N := 22) rfl ?_); refine appN_event (w0 := ((w.alloc _).alloc _).alloc _) _ rfl (N := 22) rfl .u8 _ _ 26 5 (.int .u8 0) 1 rfl Try.underlying26 info5 rfl (by omega) v5 [] B A4 B.length c4 rfl rfl HO5.out (Kd.C_below HB.out (below_thenR (Nat.le_refl _) (below_three _ _ _ _) HB5.out)) HB5.out HB5.out.size (by simp; omega) ?_; intro v6 w6 ho6 hb6 hg6; rw [List.nil_append] at ho6; have HO6 := Aside0.mk ho6; have HB6 := Aside0.mk hb6; have HG6 := Aside0.mk (grown_of_below hb6 (some p)); have HW6 := Aside0.mk (below_thenR (Nat.le_refl _) (below_three _ _ _ _) hb6); have x0 := (blk_cell (three_blks HG6.out HLT.out).1 0).trans rfl; have x1 := (blk_cell (three_blks HG6.out HLT.out).1 1).trans rfl; have x2 := (blk_cell (three_blks HG6.out HLT.out).1 2).trans rfl; have y0 := (blk_cell (three_blks HG6.out HLT.out).2.1 0).trans rfl; have y1 := (blk_cell (three_blks HG6.out HLT.out).2.1 1).trans rfl; have y2 := (blk_cell (three_blks HG6.out HLT.out).2.1 2).trans rfl; have y3 := (blk_cell (three_blks HG6.out HLT.out).2.1 3).trans rfl; have y4 := (blk_cell (three_blks HG6.out HLT.out).2.1 4).trans rfl; have u0 := (blk_cell (three_blks HG6.out HLT.out).2.2 0).trans rfl; have u1 := (blk_cell (three_blks HG6.out HLT.out).2.2 1).trans rfl; have u2 := (blk_cell (three_blks HG6.out HLT.out).2.2 2).trans rfl; have e0 := blk_frozen (three_blks HG6.out HLT.out).2.2 0; have e1 := blk_frozen (three_blks HG6.out HLT.out).2.2 1; have e2 := blk_frozen (three_blks HG6.out HLT.out).2.2 2; clear ho6 hb6 hg6) | (go_at_call 21; (with_reducible refine (crash_calls p b s z n t y _ (HD.out.below HW6.out) hy).mono ?_); rintro e w8 ⟨rfl, hd8, hg8⟩; rw [HCB.out] at hd8; have HD8 := Aside0.mk hd8; have HR8 := Aside0.mk ((HR.out.below HW6.out).at_disk (HD.out.below HW6.out) hg8); have HG8 := Aside0.mk (HG6.out.trans hg8); have x0 := (blk_cell (three_blks HG8.out HLT.out).1 0).trans rfl; have x1 := (blk_cell (three_blks HG8.out HLT.out).1 1).trans rfl; have x2 := (blk_cell (three_blks HG8.out HLT.out).1 2).trans rfl; have y0 := (blk_cell (three_blks HG8.out HLT.out).2.1 0).trans rfl; have y1 := (blk_cell (three_blks HG8.out HLT.out).2.1 1).trans rfl; have y2 := (blk_cell (three_blks HG8.out HLT.out).2.1 2).trans rfl; have y3 := (blk_cell (three_blks HG8.out HLT.out).2.1 3).trans rfl; have y4 := (blk_cell (three_blks HG8.out HLT.out).2.1 4).trans rfl; have u0 := (blk_cell (three_blks HG8.out HLT.out).2.2 0).trans rfl; have u1 := (blk_cell (three_blks HG8.out HLT.out).2.2 1).trans rfl; have u2 := (blk_cell (three_blks HG8.out HLT.out).2.2 2).trans rfl; have e0 := blk_frozen (three_blks HG8.out HLT.out).2.2 0; have e1 := blk_frozen (three_blks HG8.out HLT.out).2.2 1; have e2 := blk_frozen (three_blks HG8.out HLT.out).2.2 2; clear hd8 hg8) | (go_at_call 30; refine (rcrash_calls _ S L zr n t y _ HR8.out (fun k hk => hk.elim)).mono ?_; rintro e w9 ⟨v9, rfl, hr9, hb9⟩; rw [HCP.out] at hr9; have HR9 := Aside0.mk hr9; obtain ⟨A9, c9, A9', c9', ev9, _⟩ := hr9; subst ev9; have HD9 := Aside0.mk (HD8.out.below hb9); have HG9 := Aside0.mk (gb_below HG8.out hb9); have x0 := (blk_cell (three_blks HG9.out HLT.out).1 0).trans rfl; have x1 := (blk_cell (three_blks HG9.out HLT.out).1 1).trans rfl; have x2 := (blk_cell (three_blks HG9.out HLT.out).1 2).trans rfl; have y0 := (blk_cell (three_blks HG9.out HLT.out).2.1 0).trans rfl; have y1 := (blk_cell (three_blks HG9.out HLT.out).2.1 1).trans rfl; have y2 := (blk_cell (three_blks HG9.out HLT.out).2.1 2).trans rfl; have y3 := (blk_cell (three_blks HG9.out HLT.out).2.1 3).trans rfl; have y4 := (blk_cell (three_blks HG9.out HLT.out).2.1 4).trans rfl; have u0 := (blk_cell (three_blks HG9.out HLT.out).2.2 0).trans rfl; have u1 := (blk_cell (three_blks HG9.out HLT.out).2.2 1).trans rfl; have u2 := (blk_cell (three_blks HG9.out HLT.out).2.2 2).trans rfl; have e0 := blk_frozen (three_blks HG9.out HLT.out).2.2 0; have e1 := blk_frozen (three_blks HG9.out HLT.out).2.2 1; have e2 := blk_frozen (three_blks HG9.out HLT.out).2.2 2; clear hb9))
  obtain ⟨f1, f2, f3, f4⟩ := fin3 (.slice A9 cp.length c9) (.slice A9' 0 c9') (.int .i64 (zr : Int)) HD9.out HR9.out (gb_three HG9.out) (three_blks HG9.out HLT.out).2.2 (by omega) (by have := HLT.out; omega)
  refine bodyPost_ret (results_ct rfl _ _ (w.heap.size + 1 + 1) 36 _ (0, 0) _ rfl f4 Try.underlying36 rfl (by kernel_rfl)) rfl ?_
  refine ⟨_, rfl, f1, ?_, f3⟩
  simpa using f2
theorem put3 (w8 : World) (a0 a1 a2 v0 v1 v2 : Value) : Below w8.heap.size w8 ((((w8.alloc (.cells #[a0, a1, a2] 36)).setCell ⟨w8.heap.size, 0, none⟩ v0).setCell ⟨w8.heap.size, 1, none⟩ v1).setCell ⟨w8.heap.size, 2, none⟩ v2) ∧ ((((w8.alloc (.cells #[a0, a1, a2] 36)).setCell ⟨w8.heap.size, 0, none⟩ v0).setCell ⟨w8.heap.size, 1, none⟩ v1).setCell ⟨w8.heap.size, 2, none⟩ v2).heap[w8.heap.size]? = some (.cells #[v0, v1, v2] 36 (0, 0)) := by
  have hb := blk_new w8 (.cells #[a0, a1, a2] 36)
  have q3 := blk_put hb 0 v0 rfl
  have q4 := blk_put q3 1 v1 rfl
  have q5 := blk_put q4 2 v2 rfl
  exact ⟨below_set (below_set (below_set (below_alloc (Below.refl _ _) _) (Nat.le_refl _) _ _) (Nat.le_refl _) _ _) (Nat.le_refl _) _ _, q5⟩
set_option maxHeartbeats 4000000 in
set_option maxRecDepth 100000 in
theorem does_2 (p : Nat) (b : List Int) (s z : Nat) (v : Value) (S L : List Int) (zr : Nat) (cs : List Value) (x : S40) (w : World) (hd : DiskAt w p b s z) (hr : Rf w v S L zr) (hK : k40.K w x cs) (hB : x.f4.length ≤ 100) (hv : x.f0 = 2) :
    Calls Try.prog 18 #[.pointer (some ⟨p, 0, none⟩), v, .agg cs.toArray] w fun e w' => ∃ v', e = .returned (.tuple #[v', .bool ((rCut S L zr x.f1).2.2 == (dCut b s z x.f1).2.2)]) ∧ DiskAt w' p (dCut b s z x.f1).1 (dCut b s z x.f1).2.1 z ∧ Rf w' v' (rCut S L zr x.f1).1 (rCut S L zr x.f1).2.1 zr ∧ w.grownBy w' (some p) := by
  obtain ⟨vb, n, t, y, B⟩ := x
  obtain ⟨A4, c4, rfl, hl4, hC4⟩ := k40_open hK
  obtain ⟨A, c, A', c', rfl, h1, h2, h3, h4⟩ := hr
  simp only at hB hl4 hC4 hv ⊢
  have HD := Aside0.mk hd
  have HR := Aside0.mk (show Rf w _ S L zr from ⟨A, c, A', c', rfl, h1, h2, h3, h4⟩)
  have HB := Aside0.mk hC4
  have HLT : Aside0 (p < w.heap.size) := ⟨hd.lt⟩
  clear hd h1 h2 hC4 hK
  subst hv
  generalize hcb : dCut b s z n = D at *
  generalize hcp : rCut S L zr n = R at *
  have HCB := Aside0.mk hcb
  have HCP := Aside0.mk hcp
  clear hcb hcp
  obtain ⟨Db, Ds, De⟩ := D
  obtain ⟨RS, RL, Re⟩ := R
  simp only
  go_enter Try.func18, Try.ntmps18
  go_wp2_with (first | ((with_reducible refine gate_dst (N := 19) rfl ?_); refine lit_event (w0 := ((w.alloc _).alloc _).alloc _) _ rfl (N := 19) rfl .u8 5 [] ?hr (Below.refl _ _) (Nat.le_refl _) (by simp) ?_; (case hr => first | (go_simp; done) | (go_simp; rfl) | (go_simp; exact ⟨rfl, rfl⟩)); intro v5 w5 ho5 hb5 hbb5; have HO5 := Aside0.mk ho5; have HB5 := Aside0.mk hb5; have x0 := (blk_cell (three_blks (grown_of_below hb5 (some p)) HLT.out).1 0).trans rfl; have x1 := (blk_cell (three_blks (grown_of_below hb5 (some p)) HLT.out).1 1).trans rfl; have x2 := (blk_cell (three_blks (grown_of_below hb5 (some p)) HLT.out).1 2).trans rfl; have y0 := (blk_cell (three_blks (grown_of_below hb5 (some p)) HLT.out).2.1 0).trans rfl; have y1 := (blk_cell (three_blks (grown_of_below hb5 (some p)) HLT.out).2.1 1).trans rfl; have y2 := (blk_cell (three_blks (grown_of_below hb5 (some p)) HLT.out).2.1 2).trans rfl; have y3 := (blk_cell (three_blks (grown_of_below hb5 (some p)) HLT.out).2.1 3).trans rfl; have y4 := (blk_cell (three_blks (grown_of_below hb5 (some p)) HLT.out).2.1 4).trans rfl; have u0 := (blk_cell (three_blks (grown_of_below hb5 (some p)) HLT.out).2.2 0).trans rfl; have u1 := (blk_cell (three_blks (grown_of_below hb5 (some p)) HLT.out).2.2 1).trans rfl; have u2 := (blk_cell (three_blks (grown_of_below hb5 (some p)) HLT.out).2.2 2).trans rfl; have e0 := blk_frozen (three_blks (grown_of_below hb5 (some p)) HLT.out).2.2 0; have e1 := blk_frozen (three_blks (grown_of_below hb5 (some p)) HLT.out).2.2 1; have e2 := blk_frozen (three_blks (grown_of_below hb5 (some p)) HLT.out).2.2 2; clear ho5 hb5 hbb5) | ((with_reducible refine gate_dst (N := 22) rfl ?_); refine appN_event (w0 := ((w.alloc _).alloc _).alloc _) _ rfl (N := 22) rfl .u8 _ _ 26 5 (.int .u8 0) 1 rfl Try.underlying26 info5 rfl (by omega) v5 [] B A4 B.length c4 rfl rfl HO5.out (Kd.C_below HB.out (below_thenR (Nat.le_refl _) (below_three _ _ _ _) HB5.out)) HB5.out HB5.out.size (by simp; omega) ?_; intro v6 w6 ho6 hb6 hg6; rw [List.nil_append] at ho6; have HO6 := Aside0.mk ho6; have HB6 := Aside0.mk hb6; have HG6 := Aside0.mk (grown_of_below hb6 (some p)); have HW6 := Aside0.mk (below_thenR (Nat.le_refl _) (below_three _ _ _ _) hb6); have x0 := (blk_cell (three_blks HG6.out HLT.out).1 0).trans rfl; have x1 := (blk_cell (three_blks HG6.out HLT.out).1 1).trans rfl; have x2 := (blk_cell (three_blks HG6.out HLT.out).1 2).trans rfl; have y0 := (blk_cell (three_blks HG6.out HLT.out).2.1 0).trans rfl; have y1 := (blk_cell (three_blks HG6.out HLT.out).2.1 1).trans rfl; have y2 := (blk_cell (three_blks HG6.out HLT.out).2.1 2).trans rfl; have y3 := (blk_cell (three_blks HG6.out HLT.out).2.1 3).trans rfl; have y4 := (blk_cell (three_blks HG6.out HLT.out).2.1 4).trans rfl; have u0 := (blk_cell (three_blks HG6.out HLT.out).2.2 0).trans rfl; have u1 := (blk_cell (three_blks HG6.out HLT.out).2.2 1).trans rfl; have u2 := (blk_cell (three_blks HG6.out HLT.out).2.2 2).trans rfl; have e0 := blk_frozen (three_blks HG6.out HLT.out).2.2 0; have e1 := blk_frozen (three_blks HG6.out HLT.out).2.2 1; have e2 := blk_frozen (three_blks HG6.out HLT.out).2.2 2; clear ho6 hb6 hg6) | (go_at_call 28; refine (rcut_any _ S L zr n _ (HR.out.below HW6.out)).mono ?_; rintro e w8 ⟨v8, rfl, hr8, hb8⟩; rw [HCP.out] at hr8 ⊢; have HR8 := Aside0.mk hr8; obtain ⟨A8, c8, A8', c8', ev8, _⟩ := hr8; subst ev8; have HD8 := Aside0.mk (HD.out.below (below_thenR (Nat.le_refl _) HW6.out hb8)); have HG8 := Aside0.mk (gb_below HG6.out hb8); have hb8s := Aside0.mk hb8.size; have x0 := (blk_cell (three_blks HG8.out HLT.out).1 0).trans rfl; have x1 := (blk_cell (three_blks HG8.out HLT.out).1 1).trans rfl; have x2 := (blk_cell (three_blks HG8.out HLT.out).1 2).trans rfl; have y0 := (blk_cell (three_blks HG8.out HLT.out).2.1 0).trans rfl; have y1 := (blk_cell (three_blks HG8.out HLT.out).2.1 1).trans rfl; have y2 := (blk_cell (three_blks HG8.out HLT.out).2.1 2).trans rfl; have y3 := (blk_cell (three_blks HG8.out HLT.out).2.1 3).trans rfl; have y4 := (blk_cell (three_blks HG8.out HLT.out).2.1 4).trans rfl; have u0 := (blk_cell (three_blks HG8.out HLT.out).2.2 0).trans rfl; have u1 := (blk_cell (three_blks HG8.out HLT.out).2.2 1).trans rfl; have u2 := (blk_cell (three_blks HG8.out HLT.out).2.2 2).trans rfl; have e0 := blk_frozen (three_blks HG8.out HLT.out).2.2 0; have e1 := blk_frozen (three_blks HG8.out HLT.out).2.2 1; have e2 := blk_frozen (three_blks HG8.out HLT.out).2.2 2; clear hb8))
  have hp3 : Below w8.heap.size w8 (w8.alloc (.cells #[.slice A8 RS.length c8, .slice A8' RL.length c8', .int .i64 (zr : Int)] 36)) ∧ (w8.alloc (.cells #[.slice A8 RS.length c8, .slice A8' RL.length c8', .int .i64 (zr : Int)] 36)).heap[w8.heap.size]? = some (.cells #[.slice A8 RS.length c8, .slice A8' RL.length c8', .int .i64 (zr : Int)] 36 (0, 0)) := ⟨below_alloc (Below.refl _ _) _, blk_new _ _⟩
  generalize hW : (w8.alloc (.cells #[.slice A8 RS.length c8, .slice A8' RL.length c8', .int .i64 (zr : Int)] 36)) = W9 at hp3 ⊢
  clear hW
  obtain ⟨g, hg⟩ : ∃ g, g = w8.heap.size := ⟨_, rfl⟩
  have HGG := Aside0.mk hg
  have hb9 := hp3.1
  have hk9 := hp3.2
  rw [← hg] at hk9 ⊢
  have HK9 := Aside0.mk hk9
  have HR9 := Aside0.mk (HR8.out.below hb9)
  have HD9 := Aside0.mk (HD8.out.below hb9)
  have HG9 := Aside0.mk (gb_below HG8.out hb9)
  have HGP : Aside0 (g ≠ p ∧ p < w.heap.size ∧ w.heap.size + 2 < g) := ⟨by have h1 := HLT.out; have h2 := HG6.out.size; have h3 := hb8s.out; simp at h2; omega⟩
  clear hg hb9 hk9 hp3
  have z0 := (blk_cell HK9.out 0).trans rfl
  have z1 := (blk_cell HK9.out 1).trans rfl
  have z2 := (blk_cell HK9.out 2).trans rfl
  have x0 := (blk_cell (three_blks HG9.out HLT.out).1 0).trans rfl
  have x1 := (blk_cell (three_blks HG9.out HLT.out).1 1).trans rfl
  have x2 := (blk_cell (three_blks HG9.out HLT.out).1 2).trans rfl
  have y0 := (blk_cell (three_blks HG9.out HLT.out).2.1 0).trans rfl
  have y1 := (blk_cell (three_blks HG9.out HLT.out).2.1 1).trans rfl
  have y2 := (blk_cell (three_blks HG9.out HLT.out).2.1 2).trans rfl
  have y3 := (blk_cell (three_blks HG9.out HLT.out).2.1 3).trans rfl
  have y4 := (blk_cell (three_blks HG9.out HLT.out).2.1 4).trans rfl
  have u0 := (blk_cell (three_blks HG9.out HLT.out).2.2 0).trans rfl
  have u1 := (blk_cell (three_blks HG9.out HLT.out).2.2 1).trans rfl
  have u2 := (blk_cell (three_blks HG9.out HLT.out).2.2 2).trans rfl
  have e0 := blk_frozen (three_blks HG9.out HLT.out).2.2 0
  have e1 := blk_frozen (three_blks HG9.out HLT.out).2.2 1
  have e2 := blk_frozen (three_blks HG9.out HLT.out).2.2 2
  have ne1 : ¬ g = w.heap.size + 1 + 1 := by have := HGP.out; omega
  have ne2 : ¬ w.heap.size + 1 + 1 = g := by omega
  go_region_held3 (fun w' => w'.cell? ⟨g, 0, none⟩ = some (.slice A8 RS.length c8) ∧ w'.cell? ⟨g, 1, none⟩ = some (.slice A8' RL.length c8') ∧ w'.cell? ⟨g, 2, none⟩ = some (.int .i64 (zr : Int)) ∧ w'.cell? ⟨w.heap.size + 1, 1, none⟩ = some (.int .i64 n)) (go_keep) (first | (go_at_call 24; (with_reducible refine (cut_any p b s z n _ ?hd).mono ?_); (case hd => refine HD9.out.below ?_; repeat (first | exact Below.refl _ _ | apply pw_below_drewN | apply below_drew1)); rintro e w10 ⟨rfl, hd10, hg10⟩; rw [HCB.out] at hd10 ⊢; have hbw : Below W9.heap.size W9 W9.drew := below_drew1 (Below.refl _ _); have HD10 := Aside0.mk hd10; have HR10 := Aside0.mk ((HR9.out.below hbw).at_disk (HD9.out.below hbw) hg10); have HG10 := Aside0.mk ((gb_below HG9.out hbw).trans hg10); have hk10 := (hg10.block g (blk_lt (blk_drew HK9.out)) (fun e => by injection e with e; exact HGP.out.1 e)).trans (blk_drew HK9.out); have z0 := (blk_cell hk10 0).trans rfl; have z1 := (blk_cell hk10 1).trans rfl; have z2 := (blk_cell hk10 2).trans rfl; have x0 := (blk_cell (three_blks HG10.out HLT.out).1 0).trans rfl; have x1 := (blk_cell (three_blks HG10.out HLT.out).1 1).trans rfl; have x2 := (blk_cell (three_blks HG10.out HLT.out).1 2).trans rfl; have y0 := (blk_cell (three_blks HG10.out HLT.out).2.1 0).trans rfl; have y1 := (blk_cell (three_blks HG10.out HLT.out).2.1 1).trans rfl; have y2 := (blk_cell (three_blks HG10.out HLT.out).2.1 2).trans rfl; have y3 := (blk_cell (three_blks HG10.out HLT.out).2.1 3).trans rfl; have y4 := (blk_cell (three_blks HG10.out HLT.out).2.1 4).trans rfl; have u0 := (blk_cell (three_blks HG10.out HLT.out).2.2 0).trans rfl; have u1 := (blk_cell (three_blks HG10.out HLT.out).2.2 1).trans rfl; have u2 := (blk_cell (three_blks HG10.out HLT.out).2.2 2).trans rfl; have e0 := blk_frozen (three_blks HG10.out HLT.out).2.2 0; have e1 := blk_frozen (three_blks HG10.out HLT.out).2.2 1; have e2 := blk_frozen (three_blks HG10.out HLT.out).2.2 2; clear hd10 hg10 hk10 hbw))
  go_wp2
  obtain ⟨f1, f2, f3, f4⟩ := fin3 (.slice A8 RS.length c8) (.slice A8' RL.length c8') (.int .i64 (zr : Int)) HD10.out HR10.out (gb_three HG10.out) (three_blks HG10.out HLT.out).2.2 (by omega) (by have := HLT.out; omega)
  refine bodyPost_ret (results_ct rfl _ _ (w.heap.size + 1 + 1) 36 _ (0, 0) _ rfl f4 Try.underlying36 rfl (by kernel_rfl)) rfl ?_
  exact ⟨_, rfl, f1, f2, f3⟩
/-- Bytes of the call's own that are written over, behind a world. -/
def Lp (W wr : World) (g n : Nat) : Prop := (n = 0 ∧ wr = W) ∨ (0 < n ∧ W.grownBy wr (some g) ∧ OwnB wr g n)
theorem Lp.start {W : World} {g n : Nat} (h : 0 < n → OwnB W g n) : Lp W W g n := by
  rcases Nat.eq_zero_or_pos n with h0 | h0
  · exact .inl ⟨h0, rfl⟩
  · exact .inr ⟨h0, World.grownBy.refl W _, h h0⟩
theorem Lp.step {W wr : World} {g n : Nat} (h : Lp W wr g n) (hn : 0 < n) (k : Nat) (x : Int) : Lp W (wr.setCell ⟨g, k, none⟩ (.int .u8 x)) g n := by
  rcases h with ⟨h0, _⟩ | ⟨h0, h1, h2⟩
  · omega
  · exact .inr ⟨h0, h1.trans (grown_set _ _ _ _), h2.set k x⟩
theorem Lp.own {W wr : World} {g n : Nat} (h : Lp W wr g n) (hn : 0 < n) : OwnB wr g n := by
  rcases h with ⟨h0, _⟩ | ⟨h0, h1, h2⟩
  · omega
  · exact h2
theorem Lp.disk {W wr : World} {g n p : Nat} {b : List Int} {s z : Nat} (h : Lp W wr g n) (hd : DiskX (fun k => k = g ∧ 0 < n) W p b s z) (hp : 0 < n → g ≠ p) : DiskAt wr p b s z := by
  rcases h with ⟨h0, rfl⟩ | ⟨h0, h1, h2⟩
  · exact hd.at_
  · exact (hd.grown h1 (hp h0) ⟨rfl, h0⟩).at_
theorem Lp.rf {W wr : World} {g n : Nat} {v : Value} {S L : List Int} {z : Nat} (h : Lp W wr g n) (hd : RfX (fun k => k = g ∧ 0 < n) W v S L z) : Rf wr v S L z := by
  rcases h with ⟨h0, rfl⟩ | ⟨h0, h1, h2⟩
  · exact hd.imp fun k hk => hk.elim
  · exact (hd.grown h1 ⟨rfl, h0⟩).imp fun k hk => hk.elim
theorem Lp.gb {W0 W wr : World} {g n p : Nat} (h : Lp W wr g n) (hg : W0.grownBy W (some p)) (hn : 0 < n → W0.heap.size ≤ g) : W0.grownBy wr (some p) := by
  rcases h with ⟨h0, rfl⟩ | ⟨h0, h1, h2⟩
  · exact hg
  · exact gb_own hg h1 (hn h0)
theorem Lp.blk {W wr : World} {g n k : Nat} {o : Obj} (h : Lp W wr g n) (hb : W.heap[k]? = some o) (hk : 0 < n → k ≠ g) : wr.heap[k]? = some o := by
  rcases h with ⟨h0, rfl⟩ | ⟨h0, h1, h2⟩
  · exact hb
  · exact (h1.block k (blk_lt hb) (fun e => by injection e with e; exact hk h0 e)).trans hb
theorem own_form2 {w : World} {base : Nat} {ok : Nat → Prop} {v : Value} {xs : List Int} (h : Kd.R (Kd.int .u8) 5 w base ok v xs) :
    ∃ g A c, v = .slice A xs.length c ∧ AnyRow w A c xs ∧ (0 < xs.length → A = some ⟨g, 0, none⟩ ∧ base ≤ g ∧ OwnB w g xs.length) := by
  rcases Nat.eq_zero_or_pos xs.length with h0 | h0
  · obtain ⟨A, c, e, hr⟩ := own_row (X := fun _ => False) h (fun k hk => hk.elim)
    exact ⟨0, A, c, e, hr.any, fun hp => by omega⟩
  · obtain ⟨g, c, e, hg, hb, hr⟩ := own_form h h0
    exact ⟨g, _, c, e, hr, fun _ => ⟨rfl, hg, hb⟩⟩
set_option maxHeartbeats 4000000 in
set_option maxRecDepth 100000 in
theorem does_0 (p : Nat) (b : List Int) (s z : Nat) (v : Value) (S L : List Int) (zr : Nat) (cs : List Value) (x : S40) (w : World) (hd : DiskAt w p b s z) (hr : Rf w v S L zr) (hK : k40.K w x cs) (hB : x.f4.length ≤ 100) (hv : x.f0 = 0) :
    Calls Try.prog 18 #[.pointer (some ⟨p, 0, none⟩), v, .agg cs.toArray] w fun e w' => ∃ v', e = .returned (.tuple #[v', .bool ((rAppend S L zr x.f4).2.2 == (dAppend b s z x.f4).2.2)]) ∧ DiskAt w' p (dAppend b s z x.f4).1 (dAppend b s z x.f4).2.1 z ∧ Rf w' v' (rAppend S L zr x.f4).1 (rAppend S L zr x.f4).2.1 zr ∧ w.grownBy w' (some p) := by
  obtain ⟨vb, n, t, y, B⟩ := x
  obtain ⟨A4, c4, rfl, hl4, hC4⟩ := k40_open hK
  obtain ⟨A, c, A', c', rfl, h1, h2, h3, h4⟩ := hr
  simp only at hB hl4 hC4 hv ⊢
  have HD := Aside0.mk hd
  have HR := Aside0.mk (show Rf w _ S L zr from ⟨A, c, A', c', rfl, h1, h2, h3, h4⟩)
  have HB := Aside0.mk hC4
  have HLT : Aside0 (p < w.heap.size) := ⟨hd.lt⟩
  clear hd h1 h2 hC4 hK
  subst hv
  generalize hcb : dAppend b s z B = D at *
  generalize hcp : rAppend S L zr B = R at *
  have HCB := Aside0.mk hcb
  have HCP := Aside0.mk hcp
  clear hcb hcp
  obtain ⟨Db, Ds, De⟩ := D
  obtain ⟨RS, RL, Re⟩ := R
  simp only
  go_enter Try.func18, Try.ntmps18
  go_wp2_with (first | ((with_reducible refine gate_dst (N := 19) rfl ?_); refine lit_event (w0 := ((w.alloc _).alloc _).alloc _) _ rfl (N := 19) rfl .u8 5 [] ?hr (Below.refl _ _) (Nat.le_refl _) (by simp) ?_; (case hr => first | (go_simp; done) | (go_simp; rfl) | (go_simp; exact ⟨rfl, rfl⟩)); intro v5 w5 ho5 hb5 hbb5; have HO5 := Aside0.mk ho5; have HB5 := Aside0.mk hb5; have x0 := (blk_cell (three_blks (grown_of_below hb5 (some p)) HLT.out).1 0).trans rfl; have x1 := (blk_cell (three_blks (grown_of_below hb5 (some p)) HLT.out).1 1).trans rfl; have x2 := (blk_cell (three_blks (grown_of_below hb5 (some p)) HLT.out).1 2).trans rfl; have y0 := (blk_cell (three_blks (grown_of_below hb5 (some p)) HLT.out).2.1 0).trans rfl; have y1 := (blk_cell (three_blks (grown_of_below hb5 (some p)) HLT.out).2.1 1).trans rfl; have y2 := (blk_cell (three_blks (grown_of_below hb5 (some p)) HLT.out).2.1 2).trans rfl; have y3 := (blk_cell (three_blks (grown_of_below hb5 (some p)) HLT.out).2.1 3).trans rfl; have y4 := (blk_cell (three_blks (grown_of_below hb5 (some p)) HLT.out).2.1 4).trans rfl; have u0 := (blk_cell (three_blks (grown_of_below hb5 (some p)) HLT.out).2.2 0).trans rfl; have u1 := (blk_cell (three_blks (grown_of_below hb5 (some p)) HLT.out).2.2 1).trans rfl; have u2 := (blk_cell (three_blks (grown_of_below hb5 (some p)) HLT.out).2.2 2).trans rfl; have e0 := blk_frozen (three_blks (grown_of_below hb5 (some p)) HLT.out).2.2 0; have e1 := blk_frozen (three_blks (grown_of_below hb5 (some p)) HLT.out).2.2 1; have e2 := blk_frozen (three_blks (grown_of_below hb5 (some p)) HLT.out).2.2 2; clear ho5 hb5 hbb5) | ((with_reducible refine gate_dst (N := 22) rfl ?_); refine appN_event (w0 := ((w.alloc _).alloc _).alloc _) _ rfl (N := 22) rfl .u8 _ _ 26 5 (.int .u8 0) 1 rfl Try.underlying26 info5 rfl (by omega) v5 [] B A4 B.length c4 rfl rfl HO5.out (Kd.C_below HB.out (below_thenR (Nat.le_refl _) (below_three _ _ _ _) HB5.out)) HB5.out HB5.out.size (by simp; omega) ?_; intro v6 w6 ho6 hb6 hg6; rw [List.nil_append] at ho6; obtain ⟨g, A7, c7, ev6, ha7, ho7⟩ := own_form2 ho6; subst ev6; have HA7 := Aside0.mk ha7; have HO7 := Aside0.mk ho7; have HG6 := Aside0.mk (grown_of_below hb6 (some p)); have HW6 := Aside0.mk (below_thenR (Nat.le_refl _) (below_three _ _ _ _) hb6); have x0 := (blk_cell (three_blks HG6.out HLT.out).1 0).trans rfl; have x1 := (blk_cell (three_blks HG6.out HLT.out).1 1).trans rfl; have x2 := (blk_cell (three_blks HG6.out HLT.out).1 2).trans rfl; have y0 := (blk_cell (three_blks HG6.out HLT.out).2.1 0).trans rfl; have y1 := (blk_cell (three_blks HG6.out HLT.out).2.1 1).trans rfl; have y2 := (blk_cell (three_blks HG6.out HLT.out).2.1 2).trans rfl; have y3 := (blk_cell (three_blks HG6.out HLT.out).2.1 3).trans rfl; have y4 := (blk_cell (three_blks HG6.out HLT.out).2.1 4).trans rfl; have u0 := (blk_cell (three_blks HG6.out HLT.out).2.2 0).trans rfl; have u1 := (blk_cell (three_blks HG6.out HLT.out).2.2 1).trans rfl; have u2 := (blk_cell (three_blks HG6.out HLT.out).2.2 2).trans rfl; have e0 := blk_frozen (three_blks HG6.out HLT.out).2.2 0; have e1 := blk_frozen (three_blks HG6.out HLT.out).2.2 1; have e2 := blk_frozen (three_blks HG6.out HLT.out).2.2 2; clear ho6 hb6 hg6 ha7 ho7) | (go_at_call 26; refine (rappend_any (X := (fun k => k = g ∧ 0 < B.length)) _ S L zr A4 B c4 _ ((HR.out.fresh (fun k hk => Nat.le_trans (below_three w _ _ _).size (hk.1 ▸ (HO7.out hk.2).2.1))).below HW6.out) (fun k hk => by obtain ⟨cur, hc, _⟩ := (HO7.out hk.2).2.2; rw [hk.1]; exact blk_lt hc) (Kd.C_below HB.out HW6.out) (by omega)).mono ?_; rintro e w8 ⟨v8, rfl, hr8, hb8⟩; rw [HCP.out] at hr8 ⊢; have HR8 := Aside0.mk hr8; obtain ⟨A8, c8, A8', c8', ev8, _⟩ := hr8; subst ev8; have HB8 := Aside0.mk hb8; have HW8 := Aside0.mk (below_thenR (Nat.le_refl _) HW6.out hb8); have HG8 := Aside0.mk (gb_below HG6.out hb8); have x0 := (blk_cell (three_blks HG8.out HLT.out).1 0).trans rfl; have x1 := (blk_cell (three_blks HG8.out HLT.out).1 1).trans rfl; have x2 := (blk_cell (three_blks HG8.out HLT.out).1 2).trans rfl; have y0 := (blk_cell (three_blks HG8.out HLT.out).2.1 0).trans rfl; have y1 := (blk_cell (three_blks HG8.out HLT.out).2.1 1).trans rfl; have y2 := (blk_cell (three_blks HG8.out HLT.out).2.1 2).trans rfl; have y3 := (blk_cell (three_blks HG8.out HLT.out).2.1 3).trans rfl; have y4 := (blk_cell (three_blks HG8.out HLT.out).2.1 4).trans rfl; have u0 := (blk_cell (three_blks HG8.out HLT.out).2.2 0).trans rfl; have u1 := (blk_cell (three_blks HG8.out HLT.out).2.2 1).trans rfl; have u2 := (blk_cell (three_blks HG8.out HLT.out).2.2 2).trans rfl; have e0 := blk_frozen (three_blks HG8.out HLT.out).2.2 0; have e1 := blk_frozen (three_blks HG8.out HLT.out).2.2 1; have e2 := blk_frozen (three_blks HG8.out HLT.out).2.2 2; clear hb8) | (go_at_call 12; refine (append_any (fun k => k = g ∧ 0 < B.length) p b s z A7 B c7 _ ((HD.out.fresh (fun k hk => Nat.le_trans (below_three w _ _ _).size (hk.1 ▸ (HO7.out hk.2).2.1))).below (below_thenR (Nat.le_refl _) HW8.out (below_alloc (Below.refl _ _) _))) (fun k hk => by obtain ⟨cur, hc, _⟩ := (HO7.out hk.2).2.2; rw [hk.1]; exact Nat.lt_of_lt_of_le (blk_lt hc) (Nat.le_trans HB8.out.size (below_alloc (Below.refl _ _) _).size)) (Kd.C_below HA7.out.2.1 (below_thenR (Nat.le_refl _) HB8.out (below_alloc (Below.refl _ _) _)))).mono ?_; rintro e w10 ⟨rfl, hd10, hg10⟩; rw [HCB.out] at hd10 ⊢; have HD10 := Aside0.mk hd10; have HR10 := Aside0.mk ((HR8.out.below (below_alloc (Below.refl _ _) _)).at_disk (HD.out.below (below_thenR (Nat.le_refl _) HW8.out (below_alloc (Below.refl _ _) _))) hg10); have HG10 := Aside0.mk ((gb_below HG8.out (below_alloc (Below.refl _ _) _)).trans hg10); have HK10 := Aside0.mk ((hg10.block w8.heap.size (blk_lt (blk_new _ _)) (fun e => by injection e with e; have := HLT.out; have := HW8.out.size; omega)).trans (blk_new _ _)); have HO10 : Aside0 (0 < B.length → OwnB w10 g B.length) := ⟨fun hp => (((HO7.out hp).2.2.grown (grown_of_below HB8.out none) (by simp)).grown (grown_of_below (below_alloc (Below.refl _ _) _) none) (by simp)).grown hg10 (fun e => by injection e with e; have := HLT.out; have := (below_three w (.cells #[] 0) (.cells #[] 0) (.cells #[] 0)).size; have h7 := (HO7.out hp).2.1; simp at h7; omega)⟩; clear hd10 hg10))
  go_loopw [39] (fun i wr => ∃ k : Nat, i = .int .i64 k ∧ k ≤ B.length ∧ Aside0 (Lp w10 wr g B.length)) (fun i _ => B.length - (intOf i).toNat)
  case atStart => exact ⟨0, rfl, by omega, ⟨Lp.start HO10.out⟩⟩
  case round =>
    obtain ⟨k, rfl, hk, HL⟩ := hrel
    by_cases hlt : k < B.length
    · have hp : 0 < B.length := by omega
      obtain ⟨u, cu, fu⟩ := (HL.out.own hp).at_ k hlt
      obtain ⟨ea, _, _⟩ := HO7.out hp
      subst ea
      have j1 : (k : Int) < (B.length : Int) := by omega
      go_wp2
      exact ⟨⟨k + 1, by simp, by omega, ⟨HL.out.step hp k _⟩⟩, by simp [intOf]; omega⟩
    · have hke : k = B.length := by omega
      subst hke
      have hpg : 0 < B.length → g ≠ p ∧ w8.heap.size ≠ g := fun hp => by
        obtain ⟨_, h7, cur, hc, _⟩ := HO7.out hp
        have h8 := blk_lt hc
        have h9 := HB8.out.size
        have h10 := HLT.out
        have h11 := (below_three w (.cells #[] 0) (.cells #[] 0) (.cells #[] 0)).size
        simp at h7 h11
        omega
      have HGr := Aside0.mk (HL.out.gb HG10.out (fun hp => (HO7.out hp).2.1))
      have hkr := HL.out.blk HK10.out (fun hp => (hpg hp).2)
      have HDr := Aside0.mk (HL.out.disk HD10.out (fun hp => (hpg hp).1))
      have HRr := Aside0.mk (HL.out.rf HR10.out)
      have z0 := (blk_cell hkr 0).trans rfl
      have z1 := (blk_cell hkr 1).trans rfl
      have z2 := (blk_cell hkr 2).trans rfl
      have x0 := (blk_cell (three_blks HGr.out HLT.out).1 0).trans rfl
      have x1 := (blk_cell (three_blks HGr.out HLT.out).1 1).trans rfl
      have x2 := (blk_cell (three_blks HGr.out HLT.out).1 2).trans rfl
      have y0 := (blk_cell (three_blks HGr.out HLT.out).2.1 0).trans rfl
      have y1 := (blk_cell (three_blks HGr.out HLT.out).2.1 1).trans rfl
      have y2 := (blk_cell (three_blks HGr.out HLT.out).2.1 2).trans rfl
      have y3 := (blk_cell (three_blks HGr.out HLT.out).2.1 3).trans rfl
      have y4 := (blk_cell (three_blks HGr.out HLT.out).2.1 4).trans rfl
      have u0 := (blk_cell (three_blks HGr.out HLT.out).2.2 0).trans rfl
      have u1 := (blk_cell (three_blks HGr.out HLT.out).2.2 1).trans rfl
      have u2 := (blk_cell (three_blks HGr.out HLT.out).2.2 2).trans rfl
      have e0 := blk_frozen (three_blks HGr.out HLT.out).2.2 0
      have e1 := blk_frozen (three_blks HGr.out HLT.out).2.2 1
      have e2 := blk_frozen (three_blks HGr.out HLT.out).2.2 2
      clear hkr hpg
      go_wp2
      obtain ⟨f1, f2, f3, f4⟩ := fin3 (.slice A8 RS.length c8) (.slice A8' RL.length c8') (.int .i64 (zr : Int)) HDr.out HRr.out (gb_three HGr.out) (three_blks HGr.out HLT.out).2.2 (by omega) (by have := HLT.out; omega)
      refine bodyPost_ret (results_ct rfl _ _ (w.heap.size + 1 + 1) 36 _ (0, 0) _ rfl f4 Try.underlying36 rfl (by kernel_rfl)) rfl ?_
      exact ⟨_, rfl, f1, f2, f3⟩
set_option maxHeartbeats 4000000 in
set_option maxRecDepth 100000 in
theorem does_3 (p : Nat) (b : List Int) (s z : Nat) (v : Value) (S L : List Int) (zr : Nat) (cs : List Value) (x : S40) (w : World) (hd : DiskAt w p b s z) (hr : Rf w v S L zr) (hK : k40.K w x cs) (hB : x.f4.length ≤ 100) (hv : x.f0 = 3) :
    Calls Try.prog 18 #[.pointer (some ⟨p, 0, none⟩), v, .agg cs.toArray] w fun e w' => ∃ v', e = .returned (.tuple #[v', .bool ((rReplace S L zr x.f4).2.2 == (dReplace b s z x.f4).2.2)]) ∧ DiskAt w' p (dReplace b s z x.f4).1 (dReplace b s z x.f4).2.1 z ∧ Rf w' v' (rReplace S L zr x.f4).1 (rReplace S L zr x.f4).2.1 zr ∧ w.grownBy w' (some p) := by
  obtain ⟨vb, n, t, y, B⟩ := x
  obtain ⟨A4, c4, rfl, hl4, hC4⟩ := k40_open hK
  obtain ⟨A, c, A', c', rfl, h1, h2, h3, h4⟩ := hr
  simp only at hB hl4 hC4 hv ⊢
  have HD := Aside0.mk hd
  have HR := Aside0.mk (show Rf w _ S L zr from ⟨A, c, A', c', rfl, h1, h2, h3, h4⟩)
  have HB := Aside0.mk hC4
  have HLT : Aside0 (p < w.heap.size) := ⟨hd.lt⟩
  clear hd h1 h2 hC4 hK
  subst hv
  generalize hcb : dReplace b s z B = D at *
  generalize hcp : rReplace S L zr B = R at *
  have HCB := Aside0.mk hcb
  have HCP := Aside0.mk hcp
  clear hcb hcp
  obtain ⟨Db, Ds, De⟩ := D
  obtain ⟨RS, RL, Re⟩ := R
  simp only
  go_enter Try.func18, Try.ntmps18
  go_wp2_with (first | ((with_reducible refine gate_dst (N := 19) rfl ?_); refine lit_event (w0 := ((w.alloc _).alloc _).alloc _) _ rfl (N := 19) rfl .u8 5 [] ?hr (Below.refl _ _) (Nat.le_refl _) (by simp) ?_; (case hr => first | (go_simp; done) | (go_simp; rfl) | (go_simp; exact ⟨rfl, rfl⟩)); intro v5 w5 ho5 hb5 hbb5; have HO5 := Aside0.mk ho5; have HB5 := Aside0.mk hb5; have x0 := (blk_cell (three_blks (grown_of_below hb5 (some p)) HLT.out).1 0).trans rfl; have x1 := (blk_cell (three_blks (grown_of_below hb5 (some p)) HLT.out).1 1).trans rfl; have x2 := (blk_cell (three_blks (grown_of_below hb5 (some p)) HLT.out).1 2).trans rfl; have y0 := (blk_cell (three_blks (grown_of_below hb5 (some p)) HLT.out).2.1 0).trans rfl; have y1 := (blk_cell (three_blks (grown_of_below hb5 (some p)) HLT.out).2.1 1).trans rfl; have y2 := (blk_cell (three_blks (grown_of_below hb5 (some p)) HLT.out).2.1 2).trans rfl; have y3 := (blk_cell (three_blks (grown_of_below hb5 (some p)) HLT.out).2.1 3).trans rfl; have y4 := (blk_cell (three_blks (grown_of_below hb5 (some p)) HLT.out).2.1 4).trans rfl; have u0 := (blk_cell (three_blks (grown_of_below hb5 (some p)) HLT.out).2.2 0).trans rfl; have u1 := (blk_cell (three_blks (grown_of_below hb5 (some p)) HLT.out).2.2 1).trans rfl; have u2 := (blk_cell (three_blks (grown_of_below hb5 (some p)) HLT.out).2.2 2).trans rfl; have e0 := blk_frozen (three_blks (grown_of_below hb5 (some p)) HLT.out).2.2 0; have e1 := blk_frozen (three_blks (grown_of_below hb5 (some p)) HLT.out).2.2 1; have e2 := blk_frozen (three_blks (grown_of_below hb5 (some p)) HLT.out).2.2 2; clear ho5 hb5 hbb5) | ((with_reducible refine gate_dst (N := 22) rfl ?_); refine appN_event (w0 := ((w.alloc _).alloc _).alloc _) _ rfl (N := 22) rfl .u8 _ _ 26 5 (.int .u8 0) 1 rfl Try.underlying26 info5 rfl (by omega) v5 [] B A4 B.length c4 rfl rfl HO5.out (Kd.C_below HB.out (below_thenR (Nat.le_refl _) (below_three _ _ _ _) HB5.out)) HB5.out HB5.out.size (by simp; omega) ?_; intro v6 w6 ho6 hb6 hg6; rw [List.nil_append] at ho6; obtain ⟨g, A7, c7, ev6, ha7, ho7⟩ := own_form2 ho6; subst ev6; have HA7 := Aside0.mk ha7; have HO7 := Aside0.mk ho7; have HG6 := Aside0.mk (grown_of_below hb6 (some p)); have HW6 := Aside0.mk (below_thenR (Nat.le_refl _) (below_three _ _ _ _) hb6); have x0 := (blk_cell (three_blks HG6.out HLT.out).1 0).trans rfl; have x1 := (blk_cell (three_blks HG6.out HLT.out).1 1).trans rfl; have x2 := (blk_cell (three_blks HG6.out HLT.out).1 2).trans rfl; have y0 := (blk_cell (three_blks HG6.out HLT.out).2.1 0).trans rfl; have y1 := (blk_cell (three_blks HG6.out HLT.out).2.1 1).trans rfl; have y2 := (blk_cell (three_blks HG6.out HLT.out).2.1 2).trans rfl; have y3 := (blk_cell (three_blks HG6.out HLT.out).2.1 3).trans rfl; have y4 := (blk_cell (three_blks HG6.out HLT.out).2.1 4).trans rfl; have u0 := (blk_cell (three_blks HG6.out HLT.out).2.2 0).trans rfl; have u1 := (blk_cell (three_blks HG6.out HLT.out).2.2 1).trans rfl; have u2 := (blk_cell (three_blks HG6.out HLT.out).2.2 2).trans rfl; have e0 := blk_frozen (three_blks HG6.out HLT.out).2.2 0; have e1 := blk_frozen (three_blks HG6.out HLT.out).2.2 1; have e2 := blk_frozen (three_blks HG6.out HLT.out).2.2 2; clear ho6 hb6 hg6 ha7 ho7) | (go_at_call 29; refine (rreplace_any (X := (fun k => k = g ∧ 0 < B.length)) _ S L zr A4 B c4 _ ((HR.out.fresh (fun k hk => Nat.le_trans (below_three w _ _ _).size (hk.1 ▸ (HO7.out hk.2).2.1))).below HW6.out) (fun k hk => by obtain ⟨cur, hc, _⟩ := (HO7.out hk.2).2.2; rw [hk.1]; exact blk_lt hc) (Kd.C_below HB.out HW6.out) (by omega)).mono ?_; rintro e w8 ⟨v8, rfl, hr8, hb8⟩; rw [HCP.out] at hr8 ⊢; have HR8 := Aside0.mk hr8; obtain ⟨A8, c8, A8', c8', ev8, _⟩ := hr8; subst ev8; have HB8 := Aside0.mk hb8; have HW8 := Aside0.mk (below_thenR (Nat.le_refl _) HW6.out hb8); have HG8 := Aside0.mk (gb_below HG6.out hb8); have x0 := (blk_cell (three_blks HG8.out HLT.out).1 0).trans rfl; have x1 := (blk_cell (three_blks HG8.out HLT.out).1 1).trans rfl; have x2 := (blk_cell (three_blks HG8.out HLT.out).1 2).trans rfl; have y0 := (blk_cell (three_blks HG8.out HLT.out).2.1 0).trans rfl; have y1 := (blk_cell (three_blks HG8.out HLT.out).2.1 1).trans rfl; have y2 := (blk_cell (three_blks HG8.out HLT.out).2.1 2).trans rfl; have y3 := (blk_cell (three_blks HG8.out HLT.out).2.1 3).trans rfl; have y4 := (blk_cell (three_blks HG8.out HLT.out).2.1 4).trans rfl; have u0 := (blk_cell (three_blks HG8.out HLT.out).2.2 0).trans rfl; have u1 := (blk_cell (three_blks HG8.out HLT.out).2.2 1).trans rfl; have u2 := (blk_cell (three_blks HG8.out HLT.out).2.2 2).trans rfl; have e0 := blk_frozen (three_blks HG8.out HLT.out).2.2 0; have e1 := blk_frozen (three_blks HG8.out HLT.out).2.2 1; have e2 := blk_frozen (three_blks HG8.out HLT.out).2.2 2; clear hb8) | (go_at_call 25; refine (replace_any (fun k => k = g ∧ 0 < B.length) p b s z A7 B c7 _ ((HD.out.fresh (fun k hk => Nat.le_trans (below_three w _ _ _).size (hk.1 ▸ (HO7.out hk.2).2.1))).below (below_thenR (Nat.le_refl _) HW8.out (below_alloc (Below.refl _ _) _))) (fun k hk => by obtain ⟨cur, hc, _⟩ := (HO7.out hk.2).2.2; rw [hk.1]; exact Nat.lt_of_lt_of_le (blk_lt hc) (Nat.le_trans HB8.out.size (below_alloc (Below.refl _ _) _).size)) (HA7.out.below (below_thenR (Nat.le_refl _) HB8.out (below_alloc (Below.refl _ _) _)))).mono ?_; rintro e w10 ⟨rfl, hd10, hg10⟩; rw [HCB.out] at hd10 ⊢; have HD10 := Aside0.mk hd10; have HR10 := Aside0.mk ((HR8.out.below (below_alloc (Below.refl _ _) _)).at_disk (HD.out.below (below_thenR (Nat.le_refl _) HW8.out (below_alloc (Below.refl _ _) _))) hg10); have HG10 := Aside0.mk ((gb_below HG8.out (below_alloc (Below.refl _ _) _)).trans hg10); have HK10 := Aside0.mk ((hg10.block w8.heap.size (blk_lt (blk_new _ _)) (fun e => by injection e with e; have := HLT.out; have := HW8.out.size; omega)).trans (blk_new _ _)); have HO10 : Aside0 (0 < B.length → OwnB w10 g B.length) := ⟨fun hp => (((HO7.out hp).2.2.grown (grown_of_below HB8.out none) (by simp)).grown (grown_of_below (below_alloc (Below.refl _ _) _) none) (by simp)).grown hg10 (fun e => by injection e with e; have := HLT.out; have := (below_three w (.cells #[] 0) (.cells #[] 0) (.cells #[] 0)).size; have h7 := (HO7.out hp).2.1; simp at h7; omega)⟩; clear hd10 hg10))
  go_loopw [89] (fun i wr => ∃ k : Nat, i = .int .i64 k ∧ k ≤ B.length ∧ Aside0 (Lp w10 wr g B.length)) (fun i _ => B.length - (intOf i).toNat)
  case atStart => exact ⟨0, rfl, by omega, ⟨Lp.start HO10.out⟩⟩
  case round =>
    obtain ⟨k, rfl, hk, HL⟩ := hrel
    by_cases hlt : k < B.length
    · have hp : 0 < B.length := by omega
      obtain ⟨u, cu, fu⟩ := (HL.out.own hp).at_ k hlt
      obtain ⟨ea, _, _⟩ := HO7.out hp
      subst ea
      have j1 : (k : Int) < (B.length : Int) := by omega
      go_wp2
      exact ⟨⟨k + 1, by simp, by omega, ⟨HL.out.step hp k _⟩⟩, by simp [intOf]; omega⟩
    · have hke : k = B.length := by omega
      subst hke
      have hpg : 0 < B.length → g ≠ p ∧ w8.heap.size ≠ g := fun hp => by
        obtain ⟨_, h7, cur, hc, _⟩ := HO7.out hp
        have h8 := blk_lt hc
        have h9 := HB8.out.size
        have h10 := HLT.out
        have h11 := (below_three w (.cells #[] 0) (.cells #[] 0) (.cells #[] 0)).size
        simp at h7 h11
        omega
      have HGr := Aside0.mk (HL.out.gb HG10.out (fun hp => (HO7.out hp).2.1))
      have hkr := HL.out.blk HK10.out (fun hp => (hpg hp).2)
      have HDr := Aside0.mk (HL.out.disk HD10.out (fun hp => (hpg hp).1))
      have HRr := Aside0.mk (HL.out.rf HR10.out)
      have z0 := (blk_cell hkr 0).trans rfl
      have z1 := (blk_cell hkr 1).trans rfl
      have z2 := (blk_cell hkr 2).trans rfl
      have x0 := (blk_cell (three_blks HGr.out HLT.out).1 0).trans rfl
      have x1 := (blk_cell (three_blks HGr.out HLT.out).1 1).trans rfl
      have x2 := (blk_cell (three_blks HGr.out HLT.out).1 2).trans rfl
      have y0 := (blk_cell (three_blks HGr.out HLT.out).2.1 0).trans rfl
      have y1 := (blk_cell (three_blks HGr.out HLT.out).2.1 1).trans rfl
      have y2 := (blk_cell (three_blks HGr.out HLT.out).2.1 2).trans rfl
      have y3 := (blk_cell (three_blks HGr.out HLT.out).2.1 3).trans rfl
      have y4 := (blk_cell (three_blks HGr.out HLT.out).2.1 4).trans rfl
      have u0 := (blk_cell (three_blks HGr.out HLT.out).2.2 0).trans rfl
      have u1 := (blk_cell (three_blks HGr.out HLT.out).2.2 1).trans rfl
      have u2 := (blk_cell (three_blks HGr.out HLT.out).2.2 2).trans rfl
      have e0 := blk_frozen (three_blks HGr.out HLT.out).2.2 0
      have e1 := blk_frozen (three_blks HGr.out HLT.out).2.2 1
      have e2 := blk_frozen (three_blks HGr.out HLT.out).2.2 2
      clear hkr hpg
      go_wp2
      obtain ⟨f1, f2, f3, f4⟩ := fin3 (.slice A8 RS.length c8) (.slice A8' RL.length c8') (.int .i64 (zr : Int)) HDr.out HRr.out (gb_three HGr.out) (three_blks HGr.out HLT.out).2.2 (by omega) (by have := HLT.out; omega)
      refine bodyPost_ret (results_ct rfl _ _ (w.heap.size + 1 + 1) 36 _ (0, 0) _ rfl f4 Try.underlying36 rfl (by kernel_rfl)) rfl ?_
      exact ⟨_, rfl, f1, f2, f3⟩
end Go.Proofs.Ytpaphcoloogdlaa.Dk
