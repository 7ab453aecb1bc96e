/- Whether trips are a history hangs not on how they stand: plain. -/
import Derived.Test.YtnldlkkcdgdkgaaCh16
namespace Go.Proofs.Ytnldlkkcdgdkgaa.AX
open Go Go.RowKit
set_option linter.unusedSimpArgs false
set_option linter.unusedVariables false
set_option maxRecDepth 100000
set_option maxHeartbeats 4000000
def Good (p : List Trp) : Prop := (p.map nmP).Nodup ∧ Apart p
theorem good_snoc {p : List Trp} {t : Trp} (h : Good p) : clashT p t = false ↔ Good (p ++ [t]) := by
  obtain ⟨h1, h2⟩ := h
  unfold Good Apart at *
  rw [clashT, Bool.or_eq_false_iff, decide_eq_false_iff_not, List.map_append, List.filter_append, List.map_append, List.nodup_append, List.map_cons, List.map_nil]
  rcases hc : isCm t with _ | _
  · simp only [hc, List.filter_cons, List.filter_nil, Bool.false_eq_true, if_false, List.map_nil, List.append_nil, Bool.false_and, and_true]
    constructor
    · intro hn
      refine ⟨⟨h1, by simp, fun a ha b hb => ?_⟩, h2⟩
      simp only [List.mem_singleton] at hb
      subst hb
      exact fun e => hn (e ▸ ha)
    · rintro ⟨⟨_, _, h3⟩, _⟩ hm
      exact h3 _ hm _ (by simp) rfl
  · simp only [hc, List.filter_cons, List.filter_nil, if_true, List.map_cons, List.map_nil, Bool.true_and, decide_eq_false_iff_not]
    constructor
    · rintro ⟨hn, hm⟩
      refine ⟨⟨h1, by simp, fun a ha b hb => ?_⟩, ?_⟩
      · simp only [List.mem_singleton] at hb
        subst hb
        exact fun e => hn (e ▸ ha)
      · rw [List.nodup_append]
        refine ⟨h2, by simp, fun a ha b hb => ?_⟩
        simp only [List.mem_singleton] at hb
        subst hb
        exact fun e => hm (e ▸ ha)
    · rintro ⟨⟨_, _, h3⟩, h4⟩
      rw [List.nodup_append] at h4
      exact ⟨fun hm => h3 _ hm _ (by simp) rfl, fun hm => h4.2.2 _ hm _ (by simp) rfl⟩
theorem good_left {p q : List Trp} (h : Good (p ++ q)) : Good p := by
  obtain ⟨h1, h2⟩ := h
  unfold Good Apart at *
  rw [List.map_append, List.nodup_append] at h1
  rw [List.filter_append, List.map_append, List.nodup_append] at h2
  exact ⟨h1.1, h2.1⟩
theorem twG_good : ∀ (l p : List Trp), Good p → (twG p l = false ↔ Good (p ++ l))
  | [], p, h => by simpa [twG] using h
  | t :: r, p, h => by
    have e : p ++ t :: r = (p ++ [t]) ++ r := by simp
    rw [twG, Bool.or_eq_false_iff, good_snoc h, e]
    constructor
    · rintro ⟨h1, h2⟩
      exact (twG_good r _ h1).1 h2
    · intro hg
      have h1 := good_left hg
      exact ⟨h1, (twG_good r _ h1).2 hg⟩
theorem twice_good (l : List Trp) : twiceS l = false ↔ Good l := by
  have := twG_good l [] ⟨by simp, by simp [Apart]⟩
  exact this
theorem good_perm {l m : List Trp} (h : l.Perm m) : Good l ↔ Good m := by
  unfold Good Apart
  rw [(h.map nmP).nodup_iff, ((h.filter isCm).map tmP).nodup_iff]
theorem twice_perm {l m : List Trp} (h : l.Perm m) : twiceS l = twiceS m := by
  have h1 := twice_good l
  have h2 := twice_good m
  have h3 := good_perm h
  rcases e1 : twiceS l with _ | _ <;> rcases e2 : twiceS m with _ | _
  · rfl
  · rw [h3.1 (h1.1 e1) |> h2.2] at e2; cases e2
  · rw [h3.2 (h2.1 e2) |> h1.2] at e1; cases e1
  · rfl
theorem thereR_perm {l m : List Trp} (h : l.Perm m) (ha : Apart l) : thereR l = thereR m := by
  funext key tm ac
  rw [thereR, thereR, foldR_filter key tm ac l, foldR_filter key tm ac m, foldR_perm key tm ac (h.filter isCm) ha]
theorem there_perm {l m : List Trp} (h : l.Perm m) (ht : twiceS l = false) : thereS l = thereS m := by
  have ht2 : twiceS m = false := by rw [← twice_perm h]; exact ht
  rw [there_eq ht, there_eq ht2, thereR_perm h (twice_apart ht)]
theorem firstW_none {th : Th} : ∀ {l : List Trp} {i : Nat}, firstW th i l = none ↔ ∀ t ∈ l, wrongT th t = false
  | [], i => by simp [firstW]
  | t :: r, i => by
    rw [firstW]
    rcases hw : wrongT th t with _ | _
    · simp only [Bool.false_eq_true, if_false, List.mem_cons, forall_eq_or_imp, hw, true_and]
      exact firstW_none
    · simp [hw]
def errW (o : Option Nat) : Int := match o with
  | some _ => 16
  | none => 0
theorem cheE_perm {l m : List Trp} (h : l.Perm m) : cheE (thereS l) l = cheE (thereS m) m := by
  have ha : l.all rightT = m.all rightT := by
    rw [Bool.eq_iff_iff, List.all_eq_true, List.all_eq_true]
    exact ⟨fun hh x hx => hh x (h.mem_iff.2 hx), fun hh x hx => hh x (h.mem_iff.1 hx)⟩
  simp only [cheE, ha, ← twice_perm h]
  split
  · rfl
  · split
    · rfl
    · rename_i h2
      have ht : twiceS l = false := by simpa using h2
      rw [← there_perm h ht]
      rcases e1 : firstW (thereS l) 0 l with _ | i <;> rcases e2 : firstW (thereS l) 0 m with _ | j
      · rfl
      · rw [firstW_none] at e1
        have := (firstW_none (th := thereS l) (l := m) (i := 0)).2 fun t ht => e1 t (h.mem_iff.2 ht)
        rw [this] at e2; cases e2
      · rw [firstW_none] at e2
        have := (firstW_none (th := thereS l) (l := l) (i := 0)).2 fun t ht => e2 t (h.mem_iff.1 ht)
        rw [this] at e1; cases e1
      · rfl
end Go.Proofs.Ytnldlkkcdgdkgaa.AX
