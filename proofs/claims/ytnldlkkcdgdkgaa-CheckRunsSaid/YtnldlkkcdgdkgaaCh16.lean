/- What is there by the program, and as the document has it: the same, if no two have one time. Plain. -/
import Derived.Test.YtnldlkkcdgdkgaaCh12
namespace Go.Proofs.Ytnldlkkcdgdkgaa.AX
open Go Go.RowKit
set_option linter.unusedSimpArgs false
set_option linter.unusedVariables false
set_option maxRecDepth 100000
set_option maxHeartbeats 4000000
theorem ord_lt {a b c d : Int} : ord a b c d < 0 ↔ a < c ∨ a = c ∧ b < d := by
  unfold ord
  split
  · omega
  · split <;> omega
theorem lt_iff {a b : Trp} : lt a b = true ↔ a.tm < b.tm ∨ a.tm = b.tm ∧ a.ac < b.ac := by
  rw [lt, decide_eq_true_eq, ord_lt]
def lastV (key : ByteArray) (ws : List Wr) : Option ByteArray := ws.foldl (fun o w => if w.key = key then some w.val else o) none
theorem takeS_last (key : ByteArray) (t : Trp) (a : Acc) : takeS key t a = match lastV key t.ws with | none => a | some v => ((t.tm, t.ac), v) := by
  have go : ∀ (ws : List Wr) (o : Option ByteArray) (b : Acc), b = (match o with | none => a | some v => ((t.tm, t.ac), v)) → ws.foldl (takeF key t) b = match ws.foldl (fun o w => if w.key = key then some w.val else o) o with | none => a | some v => ((t.tm, t.ac), v) := by
    intro ws
    induction ws with
    | nil => intro o b h; exact h
    | cons w r ih =>
      intro o b h
      rw [List.foldl_cons, List.foldl_cons]
      refine ih _ _ ?_
      unfold takeF
      split
      · rfl
      · exact h
  exact go t.ws none a rfl
theorem takeR_last (key : ByteArray) (t : Trp) (s : Bool × Acc) : t.ws.foldl (takeR key t) s = match lastV key t.ws with | none => s | some v => (true, ((t.tm, t.ac), v)) := by
  have go : ∀ (ws : List Wr) (o : Option ByteArray) (b : Bool × Acc), b = (match o with | none => s | some v => (true, ((t.tm, t.ac), v))) → ws.foldl (takeR key t) b = match ws.foldl (fun o w => if w.key = key then some w.val else o) o with | none => s | some v => (true, ((t.tm, t.ac), v)) := by
    intro ws
    induction ws with
    | nil => intro o b h; exact h
    | cons w r ih =>
      intro o b h
      rw [List.foldl_cons, List.foldl_cons]
      refine ih _ _ ?_
      unfold takeR
      split
      · rfl
      · exact h
  exact go t.ws none s rfl
/-- One step, in few words. -/
theorem stepR_eq (key : ByteArray) (tm ac : Int) (s : Bool × Acc) (t : Trp) : stepR key tm ac s t = if isCm t = true ∧ ord t.tm t.ac tm ac < 0 then (match lastV key t.ws with | none => s | some v => if s.1 = true ∧ ord t.tm t.ac s.2.1.1 s.2.1.2 < 0 then s else (true, ((t.tm, t.ac), v))) else s := by
  rw [stepR]
  by_cases h : skipR tm ac s t
  · rw [if_pos h]
    unfold skipR at h
    split
    · rename_i hc
      have h1 : t.oc = 1 := of_decide_eq_true hc.1
      have h2 := (h.resolve_left fun hh => hh h1).resolve_left fun hh => hh hc.2
      cases lastV key t.ws with
      | none => rfl
      | some v => simp only; rw [if_pos h2]
    · rfl
  · rw [if_neg h, takeR_last]
    unfold skipR at h
    simp only [not_or, Classical.not_not] at h
    rw [if_pos ⟨decide_eq_true h.1, h.2.1⟩]
    cases lastV key t.ws with
    | none => rfl
    | some v => simp only; rw [if_neg h.2.2]
theorem foldR_filter (key : ByteArray) (tm ac : Int) : ∀ (l : List Trp) (s : Bool × Acc), l.foldl (stepR key tm ac) s = (l.filter isCm).foldl (stepR key tm ac) s
  | [], s => rfl
  | t :: r, s => by
    rw [List.foldl_cons, List.filter_cons, foldR_filter key tm ac r]
    rcases hc : isCm t with _ | _
    · rw [stepR_eq, if_neg (by rw [hc]; simp)]
      rfl
    · rfl
def AscL (l : List Trp) : Prop := l.Pairwise fun a b => lt b a = false
theorem fold_sorted (key : ByteArray) (tm ac : Int) : ∀ (L : List Trp) (b : Bool) (a : Acc), AscL L → (∀ t ∈ L, isCm t = true) → (b = true → ∀ t ∈ L, ¬ ord t.tm t.ac a.1.1 a.1.2 < 0) → (L.foldl (stepR key tm ac) (b, a)).2 = L.foldl (thereF key tm ac) a
  | [], b, a, _, _, _ => rfl
  | t :: r, b, a, hs, hc, hb => by
    have hs2 := List.pairwise_cons.1 hs
    have hct := hc t (by simp)
    rw [List.foldl_cons, List.foldl_cons, stepR_eq, thereF]
    by_cases ho : ord t.tm t.ac tm ac < 0
    · rw [if_pos ⟨hct, ho⟩, if_pos ho, takeS_last]
      cases lastV key t.ws with
      | none => exact fold_sorted key tm ac r b a hs2.2 (fun x hx => hc x (by simp [hx])) (fun h x hx => hb h x (by simp [hx]))
      | some v =>
        simp only
        rw [if_neg (fun h => hb h.1 t (by simp) h.2)]
        refine fold_sorted key tm ac r true _ hs2.2 (fun x hx => hc x (by simp [hx])) (fun _ x hx => ?_)
        have := hs2.1 x hx
        simpa [lt] using this
    · rw [if_neg (fun h => ho h.2), if_neg ho]
      exact fold_sorted key tm ac r b a hs2.2 (fun x hx => hc x (by simp [hx])) (fun h x hx => hb h x (by simp [hx]))
theorem insL_perm (x : Trp) : ∀ R : List Trp, (insL x R).Perm (x :: R)
  | [] => List.Perm.refl _
  | a :: r => by
    rw [insL]
    split
    · exact ((insL_perm x r).cons a).trans (List.Perm.swap x a r)
    · exact List.Perm.refl _
theorem srtR_perm (l : List Trp) : (srtR l).Perm l := by
  have key : ∀ (l R : List Trp), (l.foldl (fun R x => insL x R) R).Perm (l ++ R) := by
    intro l
    induction l with
    | nil => intro R; exact List.Perm.refl _
    | cons x r ih =>
      intro R
      rw [List.foldl_cons]
      exact (ih _).trans (((insL_perm x R).append_left r).trans List.perm_middle)
  simpa [srtR] using key l []
theorem sortedS_perm (l : List Trp) : (sortedS l).Perm (l.filter isCm) := (List.reverse_perm _).trans (srtR_perm _)
def DescL (l : List Trp) : Prop := l.Pairwise fun a b => lt a b = false
theorem insL_desc {x : Trp} : ∀ {R : List Trp}, DescL R → DescL (insL x R)
  | [], _ => by simp [insL, DescL]
  | a :: r, h => by
    have h2 := List.pairwise_cons.1 h
    rw [insL]
    split
    · rename_i hl
      refine List.pairwise_cons.2 ⟨fun y hy => ?_, insL_desc h2.2⟩
      rcases insL_mem hy with rfl | hy
      · rw [lt_iff] at hl
        rw [Bool.eq_false_iff, Ne, lt_iff]
        omega
      · exact h2.1 y hy
    · rename_i hl
      refine List.pairwise_cons.2 ⟨fun y hy => ?_, h⟩
      rcases List.mem_cons.1 hy with rfl | hy
      · simpa using hl
      · have h3 := h2.1 y hy
        rw [Bool.eq_false_iff, Ne, lt_iff] at h3 ⊢
        rw [lt_iff] at hl
        omega
theorem srtR_desc (l : List Trp) : DescL (srtR l) := by
  have key : ∀ (l R : List Trp), DescL R → DescL (l.foldl (fun R x => insL x R) R) := by
    intro l
    induction l with
    | nil => intro R h; exact h
    | cons x r ih => intro R h; exact ih _ (insL_desc h)
  exact key l [] List.Pairwise.nil
theorem sortedS_asc (l : List Trp) : AscL (sortedS l) := by
  unfold AscL sortedS
  rw [List.pairwise_reverse]
  exact srtR_desc _
def Apart (l : List Trp) : Prop := ((l.filter isCm).map tmP).Nodup
theorem twG_apart : ∀ (l p : List Trp), twG p l = false → Apart p → Apart (p ++ l)
  | [], p, _, h => by simpa using h
  | t :: r, p, h, hp => by
    rw [twG, Bool.or_eq_false_iff] at h
    have : Apart (p ++ [t]) := by
      unfold Apart at hp ⊢
      rw [List.filter_append]
      rcases hc : isCm t with _ | _
      · simpa [hc] using hp
      · have h1 := h.1
        rw [clashT, hc, Bool.or_eq_false_iff, Bool.true_and, decide_eq_false_iff_not, decide_eq_false_iff_not] at h1
        simp only [List.filter_cons, hc, if_true, List.filter_nil, List.map_append, List.map_cons, List.map_nil]
        rw [List.nodup_append]
        refine ⟨hp, by simp, fun a ha b hb => ?_⟩
        simp only [List.mem_singleton] at hb
        subst hb
        exact fun e => h1.2 (e ▸ ha)
    have := twG_apart r (p ++ [t]) h.2 this
    simpa using this
theorem twice_apart {l : List Trp} (h : twiceS l = false) : Apart l := by
  have := twG_apart l [] h (by simp [Apart])
  simpa using this
theorem nodup_inj {α β : Type} {f : α → β} : ∀ {l : List α}, (l.map f).Nodup → ∀ {x y : α}, x ∈ l → y ∈ l → f x = f y → x = y
  | [], _, x, y, hx, _, _ => by cases hx
  | a :: r, h, x, y, hx, hy, e => by
    rw [List.map_cons, List.nodup_cons] at h
    rcases List.mem_cons.1 hx with e1 | h1
    · rcases List.mem_cons.1 hy with e2 | h2
      · rw [e1, e2]
      · exact absurd (List.mem_map.2 ⟨y, h2, by rw [← e, e1]⟩) h.1
    · rcases List.mem_cons.1 hy with e2 | h2
      · exact absurd (List.mem_map.2 ⟨x, h1, by rw [e, e2]⟩) h.1
      · exact nodup_inj h.2 h1 h2 e
theorem stepR_comm (key : ByteArray) (tm ac : Int) {x y : Trp} (hxy : tmP x ≠ tmP y) (z : Bool × Acc) : stepR key tm ac (stepR key tm ac z x) y = stepR key tm ac (stepR key tm ac z y) x := by
  have hne : ¬ (x.tm = y.tm ∧ x.ac = y.ac) := fun h => hxy (by simp [tmP, h])
  rw [stepR_eq key tm ac z x, stepR_eq key tm ac z y]
  obtain ⟨b, ⟨p, q⟩, u⟩ := z
  by_cases hx : isCm x = true ∧ ord x.tm x.ac tm ac < 0
  · by_cases hy : isCm y = true ∧ ord y.tm y.ac tm ac < 0
    · rw [if_pos hx, if_pos hy]
      rcases lx : lastV key x.ws with _ | vx
      · simp only
        rcases ly : lastV key y.ws with _ | vy
        · simp only
          rw [stepR_eq, stepR_eq, if_pos hx, if_pos hy, lx, ly]
        · simp only
          rw [stepR_eq, if_pos hy, ly]
          simp only
          rw [stepR_eq, if_pos hx, lx]
      · simp only
        rcases ly : lastV key y.ws with _ | vy
        · simp only
          rw [stepR_eq, if_pos hy, ly]
          simp only
          rw [stepR_eq, if_pos hx, lx]
        · simp only
          rw [stepR_eq, if_pos hy, ly, stepR_eq, if_pos hx, lx]
          simp only [ord_lt]
          rcases b with _ | _
          · simp only [Bool.false_eq_true, false_and, if_false, true_and]
            by_cases h1 : y.tm < x.tm ∨ y.tm = x.tm ∧ y.ac < x.ac
            · rw [if_pos h1, if_neg (by omega)]
            · rw [if_neg h1, if_pos (by omega)]
          · simp only [true_and]
            by_cases h1 : x.tm < p ∨ x.tm = p ∧ x.ac < q
            · by_cases h2 : y.tm < p ∨ y.tm = p ∧ y.ac < q
              · simp only [h1, h2, if_true, true_and]
              · simp only [h1, h2, if_true, if_false, true_and]
                rw [if_pos (by omega)]
            · by_cases h2 : y.tm < p ∨ y.tm = p ∧ y.ac < q
              · simp only [h1, h2, if_true, if_false, true_and]
                rw [if_pos (by omega)]
              · simp only [h1, h2, if_false, true_and]
                by_cases h3 : y.tm < x.tm ∨ y.tm = x.tm ∧ y.ac < x.ac
                · rw [if_pos h3, if_neg (by omega)]
                · rw [if_neg h3, if_pos (by omega)]
    · rw [if_neg hy, stepR_eq, if_neg hy]
      simp only [if_pos hx]
      rw [stepR_eq, if_pos hx]
  · rw [if_neg hx, stepR_eq key tm ac _ x, if_neg hx, stepR_eq]
/-- The same, by whichever order. -/
theorem foldR_perm (key : ByteArray) (tm ac : Int) {l m : List Trp} (hp : l.Perm m) (hn : (l.map tmP).Nodup) (z : Bool × Acc) : l.foldl (stepR key tm ac) z = m.foldl (stepR key tm ac) z :=
  hp.foldl_eq' (fun x hx y hy z => by
    by_cases e : tmP x = tmP y
    · have := nodup_inj hn hx hy e
      rw [this]
    · exact stepR_comm key tm ac e z) z
theorem there_eq {l : List Trp} (h : twiceS l = false) : thereS l = thereR l := by
  funext key tm ac
  have hp := sortedS_perm l
  have hn : ((sortedS l).map tmP).Nodup := (hp.map tmP).nodup_iff.2 (twice_apart h)
  rw [thereS, thereR, foldR_filter, ← foldR_perm key tm ac hp hn]
  exact (fold_sorted key tm ac (sortedS l) false _ (sortedS_asc l) (fun t ht => (sortedS_mem ht).2) (fun h => by cases h)).symm
theorem che_eq (l : List Trp) : cheI (thereS l) l = cheI (thereR l) l ∧ cheE (thereS l) l = cheE (thereR l) l := by
  rcases h : twiceS l with _ | _
  · rw [there_eq h]; exact ⟨rfl, rfl⟩
  · simp only [cheI, cheE, h, if_true, and_self]
end Go.Proofs.Ytnldlkkcdgdkgaa.AX
