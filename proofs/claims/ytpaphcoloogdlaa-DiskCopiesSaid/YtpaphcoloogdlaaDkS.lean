/- The document's disk: Append, Cut, Replace. -/
import Derived.Test.YtpaphcoloogdlaaDkR
import Derived.Handy
namespace Go.Proofs.Ytpaphcoloogdlaa.Dk
open Go.RowKit Go.Proofs.YtpaphcoloogdlaaW.PrintWords Go.Proofs.YtpaphcoloogdlaaW.PrintLast Go.Proofs.YtpaphcoloogdlaaW.PrintMore Go.Proofs.Ytpaphcoloogdlaa.Kit Go.Proofs.Ytpaphcoloogdlaa.PDiskPlays
set_option linter.unusedVariables false
set_option linter.unusedSimpArgs false
theorem below_thenR {B : Nat} {w w1 w2 : World} (hB : B ≤ w.heap.size) (h : Below B w w1) (k : Below w1.heap.size w1 w2) : Below B w w2 := below_then h (Nat.le_trans hB h.size) k
theorem below_two (w : World) (o1 o2 : Obj) : Below w.heap.size w ((w.alloc o1).alloc o2) := below_thenR (Nat.le_refl _) (below_alloc (Below.refl _ _) _) (below_alloc (Below.refl _ _) _)
theorem below_two_then {w w1 : World} {o1 o2 : Obj} (h : Below ((w.alloc o1).alloc o2).heap.size ((w.alloc o1).alloc o2) w1) : Below w.heap.size w w1 := below_thenR (Nat.le_refl _) (below_two w o1 o2) h
theorem two_blks {w w1 : World} {cs1 cs2 : Array Value} {t1 t2 : TypeId} (h : Below ((w.alloc (.cells cs1 t1)).alloc (.cells cs2 t2)).heap.size ((w.alloc (.cells cs1 t1)).alloc (.cells cs2 t2)) w1) : w1.heap[w.heap.size]? = some (.cells cs1 t1 (0, 0)) ∧ w1.heap[w.heap.size + 1]? = some (.cells cs2 t2 (0, 0)) := by
  have e0 : ((w.alloc (.cells cs1 t1)).alloc (.cells cs2 t2)).heap[w.heap.size]? = some (.cells cs1 t1 (0, 0)) := (blk_below (blk_new w _) (below_alloc (Below.refl _ _) _))
  have e1 : ((w.alloc (.cells cs1 t1)).alloc (.cells cs2 t2)).heap[w.heap.size + 1]? = some (.cells cs2 t2 (0, 0)) := by
    have := blk_new (w.alloc (.cells cs1 t1)) (.cells cs2 t2)
    simpa using this
  exact ⟨(h.block _ (by simp; omega)).trans e0, (h.block _ (by simp)).trans e1⟩
theorem below_set {B : Nat} {w W : World} (h : Below B w W) {g : Nat} (hg : B ≤ g) (j : Nat) (v : Value) : Below B w (W.setCell ⟨g, j, none⟩ v) :=
  ⟨h.os, h.tape, h.output, by simpa [World.setCell] using h.size, fun k hk => (Below.heap_setCell _ _ _ _ (by show k ≠ g; omega)).trans (h.block k hk)⟩
theorem RowX.set {X : Nat → Prop} {w : World} {g t : Nat} {cs : Array Value} {A : Option Addr} {c : Nat} {b : List Int} (h : RowX X w A c b) (hp : w.heap[g]? = some (.cells cs t (0, 0))) (ht : t ≠ 5) (j : Nat) (v : Value) : RowX X (w.setCell ⟨g, j, none⟩ v) A c b :=
  h.disk (grown_set w g j v) hp ht
set_option maxHeartbeats 4000000 in
set_option maxRecDepth 100000 in
theorem rappend_full {X : Nat → Prop} (v : Value) (S L : List Int) (z : Nat) (A1 : Option Addr) (n c1 : Nat) (w : World) (h : RfX X w v S L z) (hn : n ≤ 1000000) (hz : z < S.length + L.length + n) :
    Calls Try.prog 26 #[v, .slice A1 n c1] w fun e w' => e = .returned (.tuple #[v, .int .i64 7]) ∧ Below w.heap.size w w' := by
  obtain ⟨A, c, A', c', rfl, h1, h2, h3, h4⟩ := h
  have d1 : decide ((z : Int) < (S.length : Int) + (L.length : Int) + (n : Int)) = true := decide_eq_true (by omega)
  clear h1 h2
  go_enter Try.func26, Try.ntmps26
  go_wp2
  go_returns
  exact ⟨rfl, below_two _ _ _⟩
set_option maxHeartbeats 4000000 in
set_option maxRecDepth 100000 in
theorem rappend_ok {X : Nat → Prop} (v : Value) (S L : List Int) (z : Nat) (A1 : Option Addr) (b1 : List Int) (c1 : Nat) (w : World) (h : RfX X w v S L z) (hX : ∀ k, X k → k < w.heap.size) (hC1 : Kd.C (Kd.int .u8) w A1 b1.length b1) (hl : S.length + L.length + b1.length ≤ z) :
    Calls Try.prog 26 #[v, .slice A1 b1.length c1] w fun e w' => ∃ v', e = .returned (.tuple #[v', .int .i64 0]) ∧ RfX X w' v' S (L ++ b1) z ∧ Below w.heap.size w w' := by
  obtain ⟨A, c, A', c', rfl, h1, h2, h3, h4⟩ := h
  have d1 : decide ((z : Int) < (S.length : Int) + (L.length : Int) + (b1.length : Int)) = false := decide_eq_false (by omega)
  have H1 := Aside0.mk h1
  have H2 := Aside0.mk h2
  have HX := Aside0.mk hX
  have HC1 := Aside0.mk hC1
  clear h1 h2 hX hC1
  go_enter Try.func26, Try.ntmps26
  go_wp2_with (first | ((with_reducible refine gate_dst (N := 20) rfl ?_); refine lit_event (w0 := (w.alloc _).alloc _) _ rfl (N := 20) rfl .u8 5 [] ?hr (Below.refl _ _) (Nat.le_refl _) (by simp) ?_; (case hr => first | (go_simp; done) | (go_simp; rfl) | (go_simp; exact ⟨rfl, rfl⟩)); intro v5 w5 ho5 hb5 hbb5; have HO5 := Aside0.mk ho5; have HB5 := Aside0.mk hb5; have x1 := (blk_cell (two_blks hb5).1 1).trans rfl; clear ho5 hb5 hbb5) | ((with_reducible refine gate_dst (N := 23) rfl ?_); refine appN_event (w0 := (w.alloc _).alloc _) _ rfl (N := 23) rfl .u8 _ _ 26 5 (.int .u8 0) 1 rfl Try.underlying26 info5 rfl (by omega) v5 [] L A' L.length c' rfl rfl HO5.out (Kd.C_below H2.out.any.2.1 (below_two_then HB5.out)) HB5.out HB5.out.size (by simp; omega) ?_; intro v6 w6 ho6 hb6 hg6; rw [List.nil_append] at ho6; have HO6 := Aside0.mk ho6; have HB6 := Aside0.mk hb6; clear ho6 hb6 hg6) | ((with_reducible refine gate_dst (N := 25) rfl ?_); refine appN_event (w0 := (w.alloc _).alloc _) _ rfl (N := 25) rfl .u8 _ _ 26 5 (.int .u8 0) 1 rfl Try.underlying26 info5 rfl (by omega) v6 L b1 A1 b1.length c1 rfl rfl HO6.out (Kd.C_below HC1.out (below_two_then HB6.out)) HB6.out HB6.out.size (by omega) ?_; intro v7 w7 ho7 hb7 hg7; obtain ⟨A7, c7, ev7, hr7⟩ := own_row (X := X) ho7 (fun k hk => Nat.lt_of_lt_of_le (HX.out k hk) (below_two w _ _).size); subst ev7; have HR7 := Aside0.mk hr7; clear hr7; have HB7 := Aside0.mk hb7; have y0 := (blk_cell (two_blks hb7).1 0).trans rfl; have y1 := (blk_cell (two_blks hb7).1 1).trans rfl; have y2 := (blk_cell (two_blks hb7).1 2).trans rfl; have f1 := blk_frozen (two_blks hb7).1 1; have u0 := (blk_cell (two_blks hb7).2 0).trans rfl; have u1 := (blk_cell (two_blks hb7).2 1).trans rfl; have u2 := (blk_cell (two_blks hb7).2 2).trans rfl; have e0 := blk_frozen (two_blks hb7).2 0; have e1 := blk_frozen (two_blks hb7).2 1; have e2 := blk_frozen (two_blks hb7).2 2; clear ho7 hb7 hg7))
  have hb := two_blks HB7.out
  have q1 := blk_put hb.1 1 (.slice A7 (L.length + b1.length) c7) rfl
  have q2 := blk_far hb.2 (p := ⟨w.heap.size, 1, none⟩) (by simp) (.slice A7 (L.length + b1.length) c7)
  have q3 := blk_put q2 0 (.slice A S.length c) rfl
  have q4 := blk_put q3 1 (.slice A7 (L.length + b1.length) c7) rfl
  have q5 := blk_put q4 2 (.int .i64 (z : Int)) rfl
  refine bodyPost_ret (results_ct rfl _ _ (w.heap.size + 1) 36 #[.slice A S.length c, .slice A7 (L.length + b1.length) c7, .int .i64 (z : Int)] (0, 0) _ rfl q5 Try.underlying36 rfl (by kernel_rfl)) rfl ?_
  have hw := below_two_then HB7.out
  exact ⟨_, rfl, ⟨A, c, A7, c7, by simp, ((((H1.out.below hw).set hb.1 (by decide) _ _).set q2 (by decide) _ _).set q3 (by decide) _ _).set q4 (by decide) _ _, (((HR7.out.set hb.1 (by decide) _ _).set q2 (by decide) _ _).set q3 (by decide) _ _).set q4 (by decide) _ _, by simp; omega, h4⟩, below_set (below_set (below_set (below_set hw (Nat.le_refl _) _ _) (by omega) _ _) (by omega) _ _) (by omega) _ _⟩
set_option maxHeartbeats 4000000 in
set_option maxRecDepth 100000 in
theorem rreplace_full {X : Nat → Prop} (v : Value) (S L : List Int) (z : Nat) (A1 : Option Addr) (n c1 : Nat) (w : World) (h : RfX X w v S L z) (hn : n ≤ 1000000000) (hz : z < n) :
    Calls Try.prog 29 #[v, .slice A1 n c1] w fun e w' => e = .returned (.tuple #[v, .int .i64 7]) ∧ Below w.heap.size w w' := by
  obtain ⟨A, c, A', c', rfl, h1, h2, h3, h4⟩ := h
  have d1 : decide ((z : Int) < (n : Int)) = true := decide_eq_true (by omega)
  have d2 : decide (z < n) = true := decide_eq_true (by omega)
  clear h1 h2
  go_enter Try.func29, Try.ntmps29
  go_wp2
  go_returns
  exact ⟨rfl, below_two _ _ _⟩
set_option maxHeartbeats 4000000 in
set_option maxRecDepth 100000 in
theorem rreplace_ok {X : Nat → Prop} (v : Value) (S L : List Int) (z : Nat) (A1 : Option Addr) (b1 : List Int) (c1 : Nat) (w : World) (h : RfX X w v S L z) (hX : ∀ k, X k → k < w.heap.size) (hC1 : Kd.C (Kd.int .u8) w A1 b1.length b1) (hl : b1.length ≤ z) :
    Calls Try.prog 29 #[v, .slice A1 b1.length c1] w fun e w' => ∃ v', e = .returned (.tuple #[v', .int .i64 0]) ∧ RfX X w' v' b1 [] z ∧ Below w.heap.size w w' := by
  obtain ⟨A, c, A', c', rfl, h1, h2, h3, h4⟩ := h
  have d1 : decide ((z : Int) < (b1.length : Int)) = false := decide_eq_false (by omega)
  have d2 : decide (z < b1.length) = false := decide_eq_false (by omega)
  have HX := Aside0.mk hX
  have HC1 := Aside0.mk hC1
  clear h1 h2 hX hC1
  go_enter Try.func29, Try.ntmps29
  go_wp2
  generalize hW : (w.alloc (.cells #[.slice A S.length c, .slice A' L.length c', .int .i64 (z : Int)] 36)).alloc (.cells #[.slice none 0 0, .slice none 0 0, .int .i64 0] 36) = W
  have HB : Aside0 (Below w.heap.size w W) := ⟨by subst hW; exact below_two _ _ _⟩
  have HP : Aside0 (W.heap[w.heap.size]? = some (.cells #[.slice A S.length c, .slice A' L.length c', .int .i64 (z : Int)] 36 (0, 0)) ∧ W.heap[w.heap.size + 1]? = some (.cells #[.slice none 0 0, .slice none 0 0, .int .i64 0] 36 (0, 0))) := ⟨by subst hW; exact two_blks (Below.refl _ _)⟩
  clear hW
  obtain ⟨g, hg⟩ : ∃ g, g = w.heap.size := ⟨_, rfl⟩
  have HG := Aside0.mk hg
  obtain ⟨g1, hg1⟩ : ∃ g1, g1 = w.heap.size + 1 := ⟨_, rfl⟩
  have HG1 := Aside0.mk hg1
  rw [← hg1] at HP
  rw [← hg] at HP
  rw [← hg1, ← hg]
  have NE : g ≠ g1 := by omega
  have NE' : g1 ≠ g := by omega
  clear hg hg1
  refine start_ (n := 8) (S := fun w' => w'.cell? ⟨g, 0, none⟩ = some (.slice A S.length c) ∧ w'.cell? ⟨g, 1, none⟩ = some (.slice A' L.length c') ∧ w'.cell? ⟨g, 2, none⟩ = some (.int .i64 (z : Int))) (ds := []) #[false, false, false, false, false, false, false, false] (by kernel_rfl) rfl rfl ⟨(blk_cell (blk_drew HP.out.1) 0).trans rfl, (blk_cell (blk_drew HP.out.1) 1).trans rfl, (blk_cell (blk_drew HP.out.1) 2).trans rfl⟩ (fun hHeld => ?_); refine with_tabW althingref08_Disk_Replace.tab3 althingref08_Disk_Replace.bits3 (fun HT_ HW_ => ?_)
  have HB2 := Aside0.mk (below_drew1 HB.out)
  have HP2 := Aside0.mk (And.intro (blk_drew HP.out.1) (blk_drew HP.out.2))
  generalize W.drew = W2 at HB2 HP2 hHeld ⊢
  refine pure_ (i := 1) (N := some 13) (v := ?_) (a' := ?_) #[false, true, false, false, false, false, false, false] rfl rfl (any_of HT_.out (by kernel_rfl)) (fun _ _ _ h => h) (Or.inl ⟨by rfl, ?_⟩) ?_ ?_
  rotate_left
  · intro w'
    go_simp
    with_reducible rfl
  rotate_left
  · simp only [Act.put, List.setIfInBounds_toArray, List.set_cons_zero, List.set_cons_succ, i64_w, i32_w]
    rfl
  refine pure_ (i := 3) (N := some 15) (v := ?_) (a' := ?_) #[false, true, false, true, false, false, false, false] rfl rfl (any_of HT_.out (by kernel_rfl)) (fun _ _ _ h => h) (Or.inl ⟨by rfl, ?_⟩) ?_ ?_
  rotate_left
  · intro w'
    go_simp
    with_reducible rfl
  rotate_left
  · simp only [Act.put, List.setIfInBounds_toArray, List.set_cons_zero, List.set_cons_succ, i64_w, i32_w]
    rfl
  refine take_ (i := 4) (N := some 16) (v := ?_) (a' := ?_) #[false, true, false, true, true, false, false, false] rfl rfl (take_ofW HT_.out HW_.out (by kernel_rfl)) (fun _ _ _ h => h) (Or.inl ⟨by rfl, ?_⟩) hHeld ?_ ?_
  rotate_left
  · rintro w' ⟨s0, s1, s2⟩
    go_simp
    with_reducible rfl
  rotate_left
  · simp only [Act.put, List.setIfInBounds_toArray, List.set_cons_zero, List.set_cons_succ, i64_w, i32_w]
    rfl
  refine one_ (i := 0) (N := some 12) #[true, true, false, true, true, false, false, false] rfl rfl (one_of HT_.out (by kernel_rfl)) (by decide) (fun K hK => ?_)
  refine Kd.R_lit_step (Kd.int .u8) _ 5 ?hg (N := 12) ?hd (xs := ([] : List Int)) (inner := []) (ok := fun _ => True) (okp := fun _ => True) ?hr ?hp (fun _ hk => hk) trivial (Below.refl _ _) (Nat.le_refl _) (by simp) ?_; (case hd => rfl); (case hg => rfl); (case hr => first | (go_simp; done) | (go_simp; rfl)); (case hp => exact (Reps.none _ _))
  intro v5 w5 ho5 hb5 hg_ hnew_
  have HO5 := Aside0.mk ho5
  have HB5 := Aside0.mk hb5
  clear hg_ hnew_ ho5 hb5
  refine hK.out _ _ ⟨(blk_cell (blk_below HP2.out.1 HB5.out) 0).trans rfl, (blk_cell (blk_below HP2.out.1 HB5.out) 1).trans rfl, (blk_cell (blk_below HP2.out.1 HB5.out) 2).trans rfl⟩ (fun hHeld => ?_)
  clear hK K
  refine norm_ (a' := ?_) ?_ ?_
  rotate_left
  · show Act.put _ (some 12) _ = _
    simp only [Act.put, List.setIfInBounds_toArray, List.set_cons_zero, List.set_cons_succ, i64_w, i32_w]
    rfl
  refine one_ (i := 2) (N := some 14) #[true, true, true, true, true, false, false, false] rfl rfl (one_of HT_.out (by kernel_rfl)) (by decide) (fun K hK => ?_)
  refine Kd.R_append_rows_step (Kd.int .u8) (w0 := W2) W2.heap.size (by rfl) (.tmp 12) (.tmp 13) 26 5 (.int .u8 0) 1 rfl Try.underlying26 info5 rfl (by decide) (by omega) v5 [] b1 _ _ _ (fun _ => True) (fun _ => False) rfl rfl HO5.out (Kd.C_below HC1.out (below_thenR (Nat.le_refl _) HB2.out HB5.out)) (fun _ _ h => h) (fun _ h => h.elim) (fun _ _ => trivial) HB5.out HB5.out.size (by simp; omega) ?_
  intro v7 w7 ho7 hb7 hg7 hat7
  rw [List.nil_append] at ho7
  obtain ⟨A7, c7, ev7, hr7⟩ := own_row (X := X) ho7 (fun k hk => Nat.lt_of_lt_of_le (HX.out k hk) HB2.out.size)
  subst ev7
  have HR7 := Aside0.mk hr7
  have HB7 := Aside0.mk hb7
  clear hr7 ho7 hb7 hg7 hat7
  refine hK.out _ _ ⟨(blk_cell (blk_below HP2.out.1 HB7.out) 0).trans rfl, (blk_cell (blk_below HP2.out.1 HB7.out) 1).trans rfl, (blk_cell (blk_below HP2.out.1 HB7.out) 2).trans rfl⟩ (fun hHeld => ?_)
  clear hK K
  refine norm_ (a' := ?_) ?_ ?_
  rotate_left
  · show Act.put _ (some 14) _ = _
    simp only [Act.put, List.setIfInBounds_toArray, List.set_cons_zero, List.set_cons_succ, i64_w, i32_w]
    rfl
  refine pure_ (i := 5) (N := some 17) (v := ?_) (a' := ?_) #[true, true, true, true, true, true, false, false] rfl rfl (any_of HT_.out (by kernel_rfl)) (fun _ _ _ h => h) (Or.inl ⟨by rfl, ?_⟩) ?_ ?_
  rotate_left
  · intro w'
    go_simp
    with_reducible rfl
  rotate_left
  · simp only [Act.put, List.setIfInBounds_toArray, List.set_cons_zero, List.set_cons_succ, i64_w, i32_w]
    rfl
  refine one_ (i := 6) (N := none) #[true, true, true, true, true, true, true, false] rfl rfl (one_of HT_.out (by kernel_rfl)) (by decide) (fun K hK => ?_)
  have BK := blk_below HP2.out.2 HB7.out
  have hs0 := (blk_cell BK 0).trans rfl
  have hs1 := (blk_cell BK 1).trans rfl
  have hs2 := (blk_cell BK 2).trans rfl
  have hf0 := blk_frozen BK 0
  have hf1 := blk_frozen BK 1
  have hf2 := blk_frozen BK 2
  refine skip_ (w1 := ?_) (by rfl) rfl ?_ ?_
  rotate_left
  · go_simp
    rfl
  refine hK.out _ _ ⟨((cell_far (p := ⟨g1, _, none⟩) NE _).trans (((cell_far (p := ⟨g1, _, none⟩) NE _).trans (((cell_far (p := ⟨g1, _, none⟩) NE _).trans (hHeld.1)))))), ((cell_far (p := ⟨g1, _, none⟩) NE _).trans (((cell_far (p := ⟨g1, _, none⟩) NE _).trans (((cell_far (p := ⟨g1, _, none⟩) NE _).trans (hHeld.2.1)))))), ((cell_far (p := ⟨g1, _, none⟩) NE _).trans (((cell_far (p := ⟨g1, _, none⟩) NE _).trans (((cell_far (p := ⟨g1, _, none⟩) NE _).trans (hHeld.2.2))))))⟩ (fun hHeld => ?_)
  clear hK K
  refine pure_ (i := 7) (N := some 5) (v := ?_) (a' := ?_) #[true, true, true, true, true, true, true, true] rfl rfl (any_of HT_.out (by kernel_rfl)) (fun _ _ _ h => h) (Or.inl ⟨by rfl, ?_⟩) ?_ ?_
  rotate_left
  · intro w'
    go_simp
    with_reducible rfl
  rotate_left
  · simp only [Act.put, List.setIfInBounds_toArray, List.set_cons_zero, List.set_cons_succ, i64_w, i32_w]
    rfl
  refine done_ (done_of HT_.out (by kernel_rfl)) ?_
  try go_wp2
  have q3 := blk_put BK 0 (.slice A7 b1.length c7) rfl
  have q4 := blk_put q3 1 (.slice none 0 0) rfl
  have q5 := blk_put q4 2 (.int .i64 (z : Int)) rfl
  refine bodyPost_ret (results_ct rfl _ _ g1 36 #[.slice A7 b1.length c7, .slice none 0 0, .int .i64 (z : Int)] (0, 0) _ rfl q5 Try.underlying36 rfl (by kernel_rfl)) rfl ?_
  have hw := below_thenR (Nat.le_refl _) HB2.out HB7.out
  have hgg : w.heap.size ≤ g1 := by have := HG1.out; omega
  exact ⟨_, rfl, ⟨A7, c7, none, 0, by simp, ((HR7.out.set BK (by decide) _ _).set q3 (by decide) _ _).set q4 (by decide) _ _, RowX.nil _ _, by simp; omega, h4⟩, below_set (below_set (below_set hw hgg _ _) hgg _ _) hgg _ _⟩
end Go.Proofs.Ytpaphcoloogdlaa.Dk
