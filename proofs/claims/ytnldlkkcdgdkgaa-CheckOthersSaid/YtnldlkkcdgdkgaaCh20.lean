/- One that was not committed changes nothing: plain. -/
import Derived.Test.YtnldlkkcdgdkgaaCh18
namespace Go.Proofs.Ytnldlkkcdgdkgaa.AX
open Go Go.RowKit
set_option linter.unusedSimpArgs false
set_option linter.unusedVariables false
set_option maxRecDepth 100000
set_option maxHeartbeats 4000000
def putL (l : List Trp) (k : Nat) (t : Trp) : List Trp := l.take k ++ t :: l.drop k
theorem put_perm (l : List Trp) (k : Nat) (t : Trp) : (putL l k t).Perm (t :: l) := by
  have := List.perm_middle (a := t) (l₁ := l.take k) (l₂ := l.drop k)
  rw [List.take_append_drop] at this
  exact this
theorem put_sorted {l : List Trp} {k : Nat} {t : Trp} (h : isCm t = false) : sortedS (putL l k t) = sortedS l := by
  have e : (putL l k t).filter isCm = l.filter isCm := by
    rw [putL, List.filter_append, List.filter_cons, h, if_neg (by simp), ← List.filter_append, List.take_append_drop]
  rw [sortedS, sortedS, e]
theorem put_there {l : List Trp} {k : Nat} {t : Trp} (h : isCm t = false) : thereS (putL l k t) = thereS l := by
  funext key tm ac
  rw [thereS, thereS, put_sorted h]
theorem put_twice {l : List Trp} {k : Nat} {t : Trp} (h : isCm t = false) (hn : ∀ o ∈ l, nmP o ≠ nmP t) : twiceS (putL l k t) = twiceS l := by
  have e := twice_perm (put_perm l k t)
  rw [e]
  have h1 := twice_good (t :: l)
  have h2 := twice_good l
  have h3 : Good (t :: l) ↔ Good l := by
    unfold Good Apart
    rw [List.map_cons, List.nodup_cons, List.filter_cons, h]
    simp only [Bool.false_eq_true, if_false]
    constructor
    · rintro ⟨⟨_, a⟩, b⟩; exact ⟨a, b⟩
    · rintro ⟨a, b⟩
      refine ⟨⟨fun hm => ?_, a⟩, b⟩
      obtain ⟨o, ho, e⟩ := List.mem_map.1 hm
      exact hn o ho e
  rcases e1 : twiceS (t :: l) with _ | _ <;> rcases e2 : twiceS l with _ | _
  · rfl
  · rw [h2.2 (h3.1 (h1.1 e1))] at e2; cases e2
  · rw [h1.2 (h3.2 (h2.1 e2))] at e1; cases e1
  · rfl
theorem firstW_append (th : Th) : ∀ (a b : List Trp) (i : Nat), firstW th i (a ++ b) = match firstW th i a with | some j => some j | none => firstW th (i + a.length) b
  | [], b, i => by simp [firstW]
  | t :: r, b, i => by
    rw [List.cons_append, firstW, firstW, firstW_append th r b (i + 1)]
    split
    · rfl
    · rw [List.length_cons, show i + 1 + r.length = i + (r.length + 1) by omega]
theorem firstW_shift (th : Th) : ∀ (a : List Trp) (i : Nat), firstW th (i + 1) a = (firstW th i a).map (· + 1)
  | [], i => rfl
  | t :: r, i => by
    rw [firstW, firstW, firstW_shift th r (i + 1)]
    split <;> rfl
theorem firstW_in (th : Th) : ∀ (a : List Trp) (i j : Nat), firstW th i a = some j → i ≤ j ∧ j < i + a.length
  | [], i, j, h => by cases h
  | t :: r, i, j, h => by
    rw [firstW] at h
    split at h
    · cases h; simp
    · have := firstW_in th r (i + 1) j h
      simp; omega
theorem put_first {th : Th} {l : List Trp} {k : Nat} {t : Trp} (h : isCm t = false) (hk : k ≤ l.length) : firstW th 0 (putL l k t) = (firstW th 0 l).map fun i => if k ≤ i then i + 1 else i := by
  have hw : wrongT th t = false := by simp [wrongT, h]
  have hl : (l.take k).length = k := by simp; omega
  have e : firstW th 0 l = match firstW th 0 (l.take k) with | some j => some j | none => firstW th (0 + (l.take k).length) (l.drop k) := by
    rw [← firstW_append, List.take_append_drop]
  rw [putL, firstW_append, e]
  rcases f1 : firstW th 0 (l.take k) with _ | j
  · simp only [firstW, hw, Bool.false_eq_true, if_false, hl, Nat.zero_add]
    rw [firstW_shift]
    rcases f2 : firstW th k (l.drop k) with _ | j
    · rfl
    · have := firstW_in th _ _ _ f2
      simp [this.1]
  · have := firstW_in th _ _ _ f1
    rw [hl] at this
    simp only [Option.map_some]
    rw [if_neg (by omega)]
theorem put_che {l : List Trp} {k : Nat} {t : Trp} (h : isCm t = false) (hr : rightT t = true) (hk : k ≤ l.length) (hn : ∀ o ∈ l, nmP o ≠ nmP t) :
    cheE (thereS (putL l k t)) (putL l k t) = cheE (thereS l) l ∧ cheI (thereS (putL l k t)) (putL l k t) = if (k : Int) ≤ cheI (thereS l) l then cheI (thereS l) l + 1 else cheI (thereS l) l := by
  have ha : (putL l k t).all rightT = l.all rightT := by
    rw [putL, List.all_append, List.all_cons, hr, Bool.true_and, ← List.all_append, List.take_append_drop]
  rw [put_there h]
  simp only [cheE, cheI, ha, put_twice h hn, put_first h hk]
  split
  · exact ⟨rfl, by rw [if_neg (by omega)]⟩
  · split
    · exact ⟨rfl, by rw [if_neg (by omega)]⟩
    · rcases firstW (thereS l) 0 l with _ | i
      · exact ⟨rfl, by simp only [Option.map_none]; rw [if_neg (by omega)]⟩
      · refine ⟨rfl, ?_⟩
        simp only [Option.map_some]
        by_cases hi : k ≤ i
        · rw [if_pos hi, if_pos (by omega)]; omega
        · rw [if_neg hi, if_neg (by omega)]
theorem cheI_in (th : Th) (l : List Trp) : -1 ≤ cheI th l ∧ cheI th l ≤ l.length := by
  unfold cheI
  split
  · omega
  · split
    · omega
    · split
      · rename_i i h
        have := firstW_in th _ _ _ h
        omega
      · omega
end Go.Proofs.Ytnldlkkcdgdkgaa.AX
