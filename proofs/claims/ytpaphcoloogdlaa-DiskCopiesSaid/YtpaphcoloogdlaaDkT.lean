/- The document's disk: Cut. -/
import Derived.Test.YtpaphcoloogdlaaDkS
namespace Go.Proofs.Ytpaphcoloogdlaa.Dk
open Go.RowKit Go.Proofs.YtpaphcoloogdlaaW.PrintWords Go.Proofs.YtpaphcoloogdlaaW.PrintLast Go.Proofs.YtpaphcoloogdlaaW.PrintMore Go.Proofs.Ytpaphcoloogdlaa.Kit Go.Proofs.Ytpaphcoloogdlaa.PDiskPlays
set_option linter.unusedVariables false
set_option linter.unusedSimpArgs false
/-- b[:n]. -/
theorem cut_hx {X : Nat → Prop} {w : World} {A : Option Addr} {c : Nat} {b : List Int} (h : RowX X w A c b) (n : Nat) (hn : n ≤ b.length) :
    ∃ A', (∀ u, (Instr.slice 26 (.slice A b.length c) none (some (.int .i64 (n : Int))) none).run Try.prog u = .ok (.slice A' n c) u) ∧ RowX X w A' c (b.take n) := by
  have h1 := Kd.C_take h.any.2.1 hn
  have hc := h.any.1
  have hlen : (b.take n).length = n := by simp; omega
  have h2 := Kd.C_drop (c := c) h1 (show 0 ≤ (b.take n).length by omega) (by omega)
  have hblk : ∀ (B : Option Addr) (ad' : Addr), (∃ k, B = if c = k then A else A.map (·.add (k * (Kd.int .u8).sz))) → B = some ad' → ∃ ad, A = some ad ∧ ad'.block = ad.block := fun B ad' hk e => by
    obtain ⟨k, hk⟩ := hk
    rw [hk] at e
    split at e
    · exact ⟨ad', e, rfl⟩
    · rcases A with _ | ad
      · simp at e
      · refine ⟨ad, rfl, ?_⟩
        simp only [Option.map_some, Option.some.injEq] at e
        subst e
        unfold Addr.add
        split <;> rfl
  refine ⟨_, fun u => ?_, ⟨⟨by omega, h2, fun ad' e => ?_⟩, fun ad' e => ?_⟩⟩
  · rw [run_slice_h (w := u) (t := 26) (a := A) (len := b.length) (cap := c) (by rw [elem26]; exact Try.underlying26) .i64 _ (by omega) (by omega), elem26, sizeOf5]
    simp only [Result.andThen, sliced, Int.toNat_natCast, Nat.sub_zero]
    rfl
  · obtain ⟨ad, e1, e2⟩ := hblk _ ad' ⟨0, rfl⟩ e
    rw [e2]
    exact h.any.2.2 ad e1
  · obtain ⟨ad, e1, e2⟩ := hblk _ ad' ⟨0, rfl⟩ e
    rw [e2]
    exact h.away ad e1
set_option maxHeartbeats 4000000 in
set_option maxRecDepth 100000 in
theorem rcut_neg {X : Nat → Prop} (v : Value) (S L : List Int) (z : Nat) (n : Int) (w : World) (h : RfX X w v S L z) (hn : n < 0) :
    Calls Try.prog 28 #[v, .int .i64 n] w fun e w' => e = .returned (.tuple #[v, .int .i64 2]) ∧ Below w.heap.size w w' := by
  obtain ⟨A, c, A', c', rfl, h1, h2, h3, h4⟩ := h
  have d1 : decide (n < 0) = true := decide_eq_true hn
  clear h1 h2
  go_enter Try.func28, Try.ntmps28
  go_wp2
  go_returns
  exact ⟨rfl, below_two _ _ _⟩
set_option maxHeartbeats 4000000 in
set_option maxRecDepth 100000 in
theorem rcut_over {X : Nat → Prop} (v : Value) (S L : List Int) (z : Nat) (n : Int) (w : World) (h : RfX X w v S L z) (hn : (S.length : Int) + (L.length : Int) < n) :
    Calls Try.prog 28 #[v, .int .i64 n] w fun e w' => e = .returned (.tuple #[v, .int .i64 2]) ∧ Below w.heap.size w w' := by
  obtain ⟨A, c, A', c', rfl, h1, h2, h3, h4⟩ := h
  have d1 : decide (n < 0) = false := decide_eq_false (by omega)
  have d2 : decide ((S.length : Int) + (L.length : Int) < n) = true := decide_eq_true hn
  have H1 := Aside0.mk h1
  have H2 := Aside0.mk h2
  clear h1 h2
  go_enter Try.func28, Try.ntmps28
  go_wp2_with (go_at_call 31; refine (rall_calls (X := X) _ S L z _ ⟨A, c, A', c', rfl, H1.out.below (below_two _ _ _), H2.out.below (below_two _ _ _), h3, h4⟩).mono ?_; rintro e w5 ⟨A5, c5, rfl, ha5, hb5⟩; have HB5 := Aside0.mk hb5; have y0 := (blk_cell (two_blks hb5).1 0).trans rfl; have y1 := (blk_cell (two_blks hb5).1 1).trans rfl; have y2 := (blk_cell (two_blks hb5).1 2).trans rfl; have f1 := blk_frozen (two_blks hb5).1 1; have u0 := (blk_cell (two_blks hb5).2 0).trans rfl; have u1 := (blk_cell (two_blks hb5).2 1).trans rfl; have u2 := (blk_cell (two_blks hb5).2 2).trans rfl; have e0 := blk_frozen (two_blks hb5).2 0; have e1 := blk_frozen (two_blks hb5).2 1; have e2 := blk_frozen (two_blks hb5).2 2; clear ha5 hb5)
  have hb := two_blks HB5.out
  have q3 := blk_put hb.2 0 (.slice A S.length c) rfl
  have q4 := blk_put q3 1 (.slice A' L.length c') rfl
  have q5 := blk_put q4 2 (.int .i64 (z : Int)) rfl
  refine bodyPost_ret (results_ct rfl _ _ (w.heap.size + 1) 36 #[.slice A S.length c, .slice A' L.length c', .int .i64 (z : Int)] (0, 0) _ rfl q5 Try.underlying36 rfl (by kernel_rfl)) rfl ?_
  exact ⟨rfl, below_set (below_set (below_set (below_two_then HB5.out) (by omega) _ _) (by omega) _ _) (by omega) _ _⟩
set_option maxHeartbeats 4000000 in
set_option maxRecDepth 100000 in
theorem rcut_safe {X : Nat → Prop} (v : Value) (S L : List Int) (z : Nat) (n : Nat) (w : World) (h : RfX X w v S L z) (hn : n ≤ S.length) :
    Calls Try.prog 28 #[v, .int .i64 n] w fun e w' => ∃ v', e = .returned (.tuple #[v', .int .i64 0]) ∧ RfX X w' v' (S.take n) [] z ∧ Below w.heap.size w w' := by
  obtain ⟨A, c, A', c', rfl, h1, h2, h3, h4⟩ := h
  have d1 : decide ((n : Int) < 0) = false := decide_eq_false (by omega)
  have d2 : decide ((S.length : Int) + (L.length : Int) < (n : Int)) = false := decide_eq_false (by omega)
  have d3 : decide ((n : Int) ≤ (S.length : Int)) = true := decide_eq_true (by omega)
  have d4 : decide (n ≤ S.length) = true := decide_eq_true (by omega)
  obtain ⟨A7, hsl, hR7⟩ := cut_hx h1 n hn
  have H1 := Aside0.mk h1
  have H2 := Aside0.mk h2
  have HR7 := Aside0.mk hR7
  clear h1 h2 hR7
  go_enter Try.func28, Try.ntmps28
  go_wp2_with (go_at_call 31; refine (rall_calls (X := X) _ S L z _ ⟨A, c, A', c', rfl, H1.out.below (below_two _ _ _), H2.out.below (below_two _ _ _), h3, h4⟩).mono ?_; rintro e w5 ⟨A5, c5, rfl, ha5, hb5⟩; have HB5 := Aside0.mk hb5; have y0 := (blk_cell (two_blks hb5).1 0).trans rfl; have y1 := (blk_cell (two_blks hb5).1 1).trans rfl; have y2 := (blk_cell (two_blks hb5).1 2).trans rfl; have f1 := blk_frozen (two_blks hb5).1 1; have u0 := (blk_cell (two_blks hb5).2 0).trans rfl; have u1 := (blk_cell (two_blks hb5).2 1).trans rfl; have u2 := (blk_cell (two_blks hb5).2 2).trans rfl; have e0 := blk_frozen (two_blks hb5).2 0; have e1 := blk_frozen (two_blks hb5).2 1; have e2 := blk_frozen (two_blks hb5).2 2; clear ha5 hb5)
  go_region
  go_wp2
  have hb := two_blks HB5.out
  have q3 := blk_put hb.2 0 (.slice A7 n c) rfl
  have q4 := blk_put q3 1 (.slice none 0 0) rfl
  have q5 := blk_put q4 2 (.int .i64 (z : Int)) rfl
  refine bodyPost_ret (results_ct rfl _ _ (w.heap.size + 1) 36 #[.slice A7 n c, .slice none 0 0, .int .i64 (z : Int)] (0, 0) _ rfl (blk_drew q5) Try.underlying36 rfl (by kernel_rfl)) rfl ?_
  have hw := below_two_then HB5.out
  have hqq : (S.take n).length = n := by simp; omega
  exact ⟨_, rfl, ⟨A7, c, none, 0, by rw [hqq]; rfl, ((((HR7.out.below hw).set hb.2 (by decide) _ _).set q3 (by decide) _ _).set q4 (by decide) _ _).below (below_drew1 (Below.refl _ _)), RowX.nil _ _, by simp; omega, h4⟩, below_drew1 (below_set (below_set (below_set hw (by omega) _ _) (by omega) _ _) (by omega) _ _)⟩
set_option maxHeartbeats 4000000 in
set_option maxRecDepth 100000 in
theorem rcut_loose {X : Nat → Prop} (v : Value) (S L : List Int) (z : Nat) (n : Nat) (w : World) (h : RfX X w v S L z) (hn : S.length < n) (hm : n ≤ S.length + L.length) :
    Calls Try.prog 28 #[v, .int .i64 n] w fun e w' => ∃ v', e = .returned (.tuple #[v', .int .i64 0]) ∧ RfX X w' v' S (L.take (n - S.length)) z ∧ Below w.heap.size w w' := by
  obtain ⟨A, c, A', c', rfl, h1, h2, h3, h4⟩ := h
  obtain ⟨q, rfl⟩ : ∃ q, n = S.length + q := ⟨n - S.length, by omega⟩
  rw [Nat.add_sub_cancel_left]
  obtain ⟨m, hm1⟩ : ∃ m, m = S.length + q := ⟨_, rfl⟩
  rw [← hm1] at hn hm ⊢
  have hq : q ≤ L.length := by omega
  have hqm : (m : Int) - (S.length : Int) = (q : Int) := by omega
  have d1 : decide ((m : Int) < 0) = false := decide_eq_false (by omega)
  have d2 : decide ((S.length : Int) + (L.length : Int) < (m : Int)) = false := decide_eq_false (by omega)
  have d3 : decide ((m : Int) ≤ (S.length : Int)) = false := decide_eq_false (by omega)
  have d4 : decide (m ≤ S.length) = false := decide_eq_false (by omega)
  have hmb : m ≤ 1048576 := by omega
  clear hm1
  obtain ⟨A7, hsl, hR7⟩ := cut_hx h2 q hq
  have H1 := Aside0.mk h1
  have H2 := Aside0.mk h2
  have HR7 := Aside0.mk hR7
  clear h1 h2 hR7
  go_enter Try.func28, Try.ntmps28
  go_wp2_with (go_at_call 31; refine (rall_calls (X := X) _ S L z _ ⟨A, c, A', c', rfl, H1.out.below (below_two _ _ _), H2.out.below (below_two _ _ _), h3, h4⟩).mono ?_; rintro e w5 ⟨A5, c5, rfl, ha5, hb5⟩; have HB5 := Aside0.mk hb5; have y0 := (blk_cell (two_blks hb5).1 0).trans rfl; have y1 := (blk_cell (two_blks hb5).1 1).trans rfl; have y2 := (blk_cell (two_blks hb5).1 2).trans rfl; have f1 := blk_frozen (two_blks hb5).1 1; have u0 := (blk_cell (two_blks hb5).2 0).trans rfl; have u1 := (blk_cell (two_blks hb5).2 1).trans rfl; have u2 := (blk_cell (two_blks hb5).2 2).trans rfl; have e0 := blk_frozen (two_blks hb5).2 0; have e1 := blk_frozen (two_blks hb5).2 1; have e2 := blk_frozen (two_blks hb5).2 2; clear ha5 hb5)
  have hb := two_blks HB5.out
  have q1 := blk_put hb.1 1 (.slice A7 q c') rfl
  have q2 := blk_far hb.2 (p := ⟨w.heap.size, 1, none⟩) (by simp) (.slice A7 q c')
  have q3 := blk_put q2 0 (.slice A S.length c) rfl
  have q4 := blk_put q3 1 (.slice A7 q c') rfl
  have q5 := blk_put q4 2 (.int .i64 (z : Int)) rfl
  refine bodyPost_ret (results_ct rfl _ _ (w.heap.size + 1) 36 #[.slice A S.length c, .slice A7 q c', .int .i64 (z : Int)] (0, 0) _ rfl q5 Try.underlying36 rfl (by kernel_rfl)) rfl ?_
  have hw := below_two_then HB5.out
  have hqq : (L.take q).length = q := by simp; omega
  exact ⟨_, rfl, ⟨A, c, A7, c', by rw [hqq], ((((H1.out.below hw).set hb.1 (by decide) _ _).set q2 (by decide) _ _).set q3 (by decide) _ _).set q4 (by decide) _ _, ((((HR7.out.below hw).set hb.1 (by decide) _ _).set q2 (by decide) _ _).set q3 (by decide) _ _).set q4 (by decide) _ _, by omega, h4⟩, below_set (below_set (below_set (below_set hw (Nat.le_refl _) _ _) (by omega) _ _) (by omega) _ _) (by omega) _ _⟩
end Go.Proofs.Ytpaphcoloogdlaa.Dk
