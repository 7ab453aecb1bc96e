/- Each step of a disk, and of the document's, whole: what it leaves, and its code. -/
import Derived.Test.YtpaphcoloogdlaaDkT
import Derived.Test.YtpaphcoloogdlaaOpDo
namespace Go.Proofs.Ytpaphcoloogdlaa.Dk
open Go.RowKit Go.Proofs.YtpaphcoloogdlaaW.PrintWords Go.Proofs.YtpaphcoloogdlaaW.PrintLast Go.Proofs.YtpaphcoloogdlaaW.PrintMore Go.Proofs.Ytpaphcoloogdlaa.Kit Go.Proofs.Ytpaphcoloogdlaa.PDiskPlays
set_option linter.unusedVariables false
set_option linter.unusedSimpArgs false
/-- A disk behind a step: its bytes, how many are safe, the code. -/
def dAppend (b : List Int) (s z : Nat) (x : List Int) : List Int × Nat × Int := if b.length + x.length ≤ z then (b ++ x, s, 0) else (b, s, 7)
def dCut (b : List Int) (s z : Nat) (n : Int) : List Int × Nat × Int := if 0 ≤ n ∧ n ≤ (b.length : Int) then (b.take n.toNat, min s n.toNat, 0) else (b, s, 2)
def dReplace (b : List Int) (s z : Nat) (x : List Int) : List Int × Nat × Int := if x.length ≤ z then (x, x.length, 0) else (b, s, 7)
/-- The document's behind it: safe, loose, the code. -/
def rAppend (S L : List Int) (z : Nat) (x : List Int) : List Int × List Int × Int := if S.length + L.length + x.length ≤ z then (S, L ++ x, 0) else (S, L, 7)
def rCut (S L : List Int) (z : Nat) (n : Int) : List Int × List Int × Int := if n < 0 ∨ (S.length : Int) + (L.length : Int) < n then (S, L, 2) else if n ≤ (S.length : Int) then (S.take n.toNat, [], 0) else (S, L.take (n.toNat - S.length), 0)
def rReplace (S L : List Int) (z : Nat) (x : List Int) : List Int × List Int × Int := if x.length ≤ z then (x, [], 0) else (S, L, 7)
theorem append_any (X : Nat → Prop) (p : Nat) (b : List Int) (s z : Nat) (A1 : Option Addr) (b1 : List Int) (c1 : Nat) (w : World) (h : DiskX X w p b s z) (hX : ∀ k, X k → k < w.heap.size) (hC1 : Kd.C (Kd.int .u8) w A1 b1.length b1) :
    Calls Try.prog 12 #[.pointer (some ⟨p, 0, none⟩), .slice A1 b1.length c1] w fun e w' => e = .returned (.int .i64 (dAppend b s z b1).2.2) ∧ DiskX X w' p (dAppend b s z b1).1 (dAppend b s z b1).2.1 z ∧ w.grownBy w' (some p) := by
  unfold dAppend
  by_cases hf : b.length + b1.length ≤ z
  · rw [if_pos hf]
    exact append_x X p b s z A1 b1 c1 w h hX hC1 hf
  · rw [if_neg hf]
    refine (append_full p b s z A1 b1.length c1 w h.at_ (by omega) (Kd.C_max hC1)).mono ?_
    rintro e w' ⟨rfl, ⟨m, rfl⟩⟩
    exact ⟨rfl, h.below (pw_below_drewN (Below.refl _ _) m), gb_drewN (gb_refl w p) m⟩
theorem replace_any (X : Nat → Prop) (p : Nat) (b : List Int) (s z : Nat) (A1 : Option Addr) (b1 : List Int) (c1 : Nat) (w : World) (h : DiskX X w p b s z) (hX : ∀ k, X k → k < w.heap.size) (hC1 : AnyRow w A1 c1 b1) :
    Calls Try.prog 25 #[.pointer (some ⟨p, 0, none⟩), .slice A1 b1.length c1] w fun e w' => e = .returned (.int .i64 (dReplace b s z b1).2.2) ∧ DiskX X w' p (dReplace b s z b1).1 (dReplace b s z b1).2.1 z ∧ w.grownBy w' (some p) := by
  unfold dReplace
  by_cases hf : b1.length ≤ z
  · rw [if_pos hf]
    exact replace_x X p b s z A1 b1 c1 w h.at_ hC1 hf hX
  · rw [if_neg hf]
    refine (replace_full p b s z A1 b1.length c1 w h.at_ (by omega) (Kd.C_max hC1.2.1)).mono ?_
    rintro e w' ⟨rfl, ⟨m, rfl⟩⟩
    exact ⟨rfl, h.below (pw_below_drewN (Below.refl _ _) m), gb_drewN (gb_refl w p) m⟩
theorem cut_any (p : Nat) (b : List Int) (s z : Nat) (n : Int) (w : World) (h : DiskAt w p b s z) :
    Calls Try.prog 24 #[.pointer (some ⟨p, 0, none⟩), .int .i64 n] w fun e w' => e = .returned (.int .i64 (dCut b s z n).2.2) ∧ DiskAt w' p (dCut b s z n).1 (dCut b s z n).2.1 z ∧ w.grownBy w' (some p) := by
  unfold dCut
  by_cases hf : 0 ≤ n ∧ n ≤ (b.length : Int)
  · rw [if_pos hf]
    obtain ⟨m, rfl⟩ := Int.eq_ofNat_of_zero_le hf.1
    exact cut_calls p b s z m w h (by omega)
  · rw [if_neg hf]
    refine (cut_bad p b s z n w h (by omega)).mono ?_
    rintro e w' ⟨rfl, ⟨m, rfl⟩⟩
    exact ⟨rfl, h.below (pw_below_drewN (Below.refl _ _) m), gb_drewN (gb_refl w p) m⟩
theorem rappend_any {X : Nat → Prop} (v : Value) (S L : List Int) (z : Nat) (A1 : Option Addr) (b1 : List Int) (c1 : Nat) (w : World) (h : RfX X w v S L z) (hX : ∀ k, X k → k < w.heap.size) (hC1 : Kd.C (Kd.int .u8) w A1 b1.length b1) (hn : b1.length ≤ 1000000) :
    Calls Try.prog 26 #[v, .slice A1 b1.length c1] w fun e w' => ∃ v', e = .returned (.tuple #[v', .int .i64 (rAppend S L z b1).2.2]) ∧ RfX X w' v' (rAppend S L z b1).1 (rAppend S L z b1).2.1 z ∧ Below w.heap.size w w' := by
  unfold rAppend
  by_cases hf : S.length + L.length + b1.length ≤ z
  · rw [if_pos hf]
    exact rappend_ok v S L z A1 b1 c1 w h hX hC1 hf
  · rw [if_neg hf]
    refine (rappend_full v S L z A1 b1.length c1 w h hn (by omega)).mono ?_
    rintro e w' ⟨rfl, hb⟩
    exact ⟨v, rfl, h.below hb, hb⟩
theorem rreplace_any {X : Nat → Prop} (v : Value) (S L : List Int) (z : Nat) (A1 : Option Addr) (b1 : List Int) (c1 : Nat) (w : World) (h : RfX X w v S L z) (hX : ∀ k, X k → k < w.heap.size) (hC1 : Kd.C (Kd.int .u8) w A1 b1.length b1) (hn : b1.length ≤ 1000000) :
    Calls Try.prog 29 #[v, .slice A1 b1.length c1] w fun e w' => ∃ v', e = .returned (.tuple #[v', .int .i64 (rReplace S L z b1).2.2]) ∧ RfX X w' v' (rReplace S L z b1).1 (rReplace S L z b1).2.1 z ∧ Below w.heap.size w w' := by
  unfold rReplace
  by_cases hf : b1.length ≤ z
  · rw [if_pos hf]
    exact rreplace_ok v S L z A1 b1 c1 w h hX hC1 hf
  · rw [if_neg hf]
    refine (rreplace_full v S L z A1 b1.length c1 w h (by omega) (by omega)).mono ?_
    rintro e w' ⟨rfl, hb⟩
    exact ⟨v, rfl, h.below hb, hb⟩
theorem rcut_any {X : Nat → Prop} (v : Value) (S L : List Int) (z : Nat) (n : Int) (w : World) (h : RfX X w v S L z) :
    Calls Try.prog 28 #[v, .int .i64 n] w fun e w' => ∃ v', e = .returned (.tuple #[v', .int .i64 (rCut S L z n).2.2]) ∧ RfX X w' v' (rCut S L z n).1 (rCut S L z n).2.1 z ∧ Below w.heap.size w w' := by
  unfold rCut
  by_cases hf : n < 0 ∨ (S.length : Int) + (L.length : Int) < n
  · rw [if_pos hf]
    rcases hf with h1 | h1
    · refine (rcut_neg v S L z n w h h1).mono ?_
      rintro e w' ⟨rfl, hb⟩
      exact ⟨v, rfl, h.below hb, hb⟩
    · refine (rcut_over v S L z n w h h1).mono ?_
      rintro e w' ⟨rfl, hb⟩
      exact ⟨v, rfl, h.below hb, hb⟩
  · rw [if_neg hf]
    obtain ⟨m, rfl⟩ := Int.eq_ofNat_of_zero_le (show 0 ≤ n by omega)
    by_cases h1 : (m : Int) ≤ (S.length : Int)
    · rw [if_pos h1]
      exact rcut_safe v S L z m w h (by omega)
    · rw [if_neg h1]
      exact rcut_loose v S L z m w h (by omega) (by omega)
/-- Three boxes; behind them a disk and what is new may have turned. -/
theorem three_blks {w w1 : World} {p : Nat} {cs1 cs2 cs3 : Array Value} {t1 t2 t3 : TypeId} (h : (((w.alloc (.cells cs1 t1)).alloc (.cells cs2 t2)).alloc (.cells cs3 t3)).grownBy w1 (some p)) (hp : p < w.heap.size) :
    w1.heap[w.heap.size]? = some (.cells cs1 t1 (0, 0)) ∧ w1.heap[w.heap.size + 1]? = some (.cells cs2 t2 (0, 0)) ∧ w1.heap[w.heap.size + 1 + 1]? = some (.cells cs3 t3 (0, 0)) := by
  have e := two_blks (w := w) (cs1 := cs1) (t1 := t1) (cs2 := cs2) (t2 := t2) (below_alloc (Below.refl _ _) (.cells cs3 t3))
  have e3 : (((w.alloc (.cells cs1 t1)).alloc (.cells cs2 t2)).alloc (.cells cs3 t3)).heap[w.heap.size + 1 + 1]? = some (.cells cs3 t3 (0, 0)) := by
    have := blk_new ((w.alloc (.cells cs1 t1)).alloc (.cells cs2 t2)) (.cells cs3 t3)
    simpa using this
  exact ⟨(h.block _ (by simp; omega) (fun e => by injection e with e; omega)).trans e.1, (h.block _ (by simp) (fun e => by injection e with e; omega)).trans e.2, (h.block _ (by simp) (fun e => by injection e with e; omega)).trans e3⟩
theorem below_three (w : World) (o1 o2 o3 : Obj) : Below w.heap.size w (((w.alloc o1).alloc o2).alloc o3) := below_thenR (Nat.le_refl _) (below_two w o1 o2) (below_alloc (Below.refl _ _) o3)
theorem gb_three {w w1 : World} {o1 o2 o3 : Obj} {p : Nat} (h : (((w.alloc o1).alloc o2).alloc o3).grownBy w1 (some p)) : w.grownBy w1 (some p) := (grown_of_below (below_three w o1 o2 o3) _).trans h
theorem gb_own {W w1 w2 : World} {p g : Nat} (h : W.grownBy w1 (some p)) (hg : w1.grownBy w2 (some g)) (hn : W.heap.size ≤ g) : W.grownBy w2 (some p) :=
  ⟨hg.os.trans h.os, hg.tape.trans h.tape, hg.output.trans h.output, Nat.le_trans h.size hg.size, fun k hk hne => (hg.block k (Nat.lt_of_lt_of_le hk h.size) (fun e => by injection e with e; omega)).trans (h.block k hk hne)⟩
theorem gb_set2 {W w1 : World} {p g : Nat} (h : W.grownBy w1 (some p)) (hn : W.heap.size ≤ g) (j : Nat) (v : Value) : W.grownBy (w1.setCell ⟨g, j, none⟩ v) (some p) := gb_own h (grown_set w1 g j v) hn
/-- Bytes of the call's own, to be written over. -/
def OwnB (w : World) (g n : Nat) : Prop := ∃ cur : Array Value, w.heap[g]? = some (.cells cur 5 (0, 0)) ∧ n ≤ cur.size ∧ ∀ j, j < n → ∃ v, cur[j]? = some (.int .u8 v)
theorem OwnB.set {w : World} {g n : Nat} (h : OwnB w g n) (k : Nat) (x : Int) : OwnB (w.setCell ⟨g, k, none⟩ (.int .u8 x)) g n := by
  obtain ⟨cur, hb, hn, hc⟩ := h
  refine ⟨_, setD hb k _, by simpa using hn, fun j hj => ?_⟩
  by_cases e : k = j
  · subst e
    have hkc : k < cur.size := by omega
    exact ⟨x, by simp [Array.getElem?_setIfInBounds, hkc]⟩
  · obtain ⟨v, hv⟩ := hc j hj
    exact ⟨v, by rw [Array.getElem?_setIfInBounds_ne e]; exact hv⟩
theorem OwnB.at_ {w : World} {g n : Nat} (h : OwnB w g n) (k : Nat) (hk : k < n) : ∃ v, w.cell? ⟨g, k, none⟩ = some (.int .u8 v) ∧ w.frozen? ⟨g, k, none⟩ = false := by
  obtain ⟨cur, hb, hn, hc⟩ := h
  obtain ⟨v, hv⟩ := hc k hk
  exact ⟨v, (blk_cell hb k).trans hv, blk_frozen hb k⟩
theorem OwnB.grown {w w1 : World} {g n : Nat} {row : Option Nat} (h : OwnB w g n) (hg : w.grownBy w1 row) (hr : row ≠ some g) : OwnB w1 g n := by
  obtain ⟨cur, hb, hn, hc⟩ := h
  exact ⟨cur, (hg.block g (blk_lt hb) (fun e => hr e.symm)).trans hb, hn, hc⟩
theorem nums_cell (xs : List Int) (j : Nat) (hj : j < xs.length) : (nums .u8 xs)[j]? = some (.int .u8 xs[j]) := by simp [nums, hj]
/-- A row of the call's own, for writing. -/
theorem own_form {w : World} {base : Nat} {ok : Nat → Prop} {v : Value} {xs : List Int} (h : Kd.R (Kd.int .u8) 5 w base ok v xs) (hne : 0 < xs.length) :
    ∃ g c, v = .slice (some ⟨g, 0, none⟩) xs.length c ∧ base ≤ g ∧ OwnB w g xs.length ∧ AnyRow w (some ⟨g, 0, none⟩) c xs := by
  obtain ⟨A, c, e, hr⟩ := own_row (X := fun _ => False) h (fun k hk => hk.elim)
  have ho := Kd.own_of_R h
  rcases ho.2 with ⟨rfl, h0⟩ | ⟨g, cap, cur, rfl, hg, hh, hn, _, hs', ht⟩
  · omega
  · injection e with e1 e2 e3
    subst e1
    subst e3
    refine ⟨g, cap, rfl, hg, ⟨cur, hh, by omega, fun j hj => ?_⟩, hr.any⟩
    have e1 : (cur.toList.take xs.length)[j]? = (encs (Value.int .u8) xs)[j]? := by
      have := congrArg (fun l : List Value => l[j]?) ht
      simpa using this
    rw [List.getElem?_take_of_lt hj] at e1
    exact ⟨xs[j], by rw [← Array.getElem?_toList, e1]; simp [encs, hj]⟩
end Go.Proofs.Ytpaphcoloogdlaa.Dk
