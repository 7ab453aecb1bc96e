/- Votes that count. -/
import Derived.Test.YtnchceblpogpmaaWi4
import Derived.Test.YtnchceblpogpmaaAxAE
namespace Go.Proofs.Ytnchceblpogpmaa.AX
open Go Go.RowKit
set_option linter.unusedSimpArgs false
set_option linter.unusedVariables false
set_option maxRecDepth 100000
set_option maxHeartbeats 4000000
structure VoteS where
  fr : Int
  r : Rec
@[simp] def VoteS.cs (v : VoteS) : List V := i64 v.fr :: v.r.cs
/-- How often each has been heard. -/
def mp (tl : List (Int × Int)) : List (V × V) := tl.map fun p => (i64 p.1, i64 p.2)
@[simp] theorem mp_ren (ρ : Nat → Nat) (t : List (Int × Int)) : (mp t).map (fun p => (p.1, V.ren ρ p.2)) = mp t := by
  induction t with
  | nil => rfl
  | cons a r ih =>
    simp only [mp, List.map_cons] at ih ⊢
    rw [ih]
    rfl
@[simp] theorem mp_refs (t : List (Int × Int)) : refsL ((mp t).map fun x => x.2) = [] := by
  induction t with
  | nil => rfl
  | cons a r ih =>
    simp only [mp, List.map_cons] at ih ⊢
    rw [refsL, ih]
    rfl
def cnt : List (Int × Int) → Int → Option (Nat × Int)
  | [], _ => none
  | (q, n) :: r, k => if q = k then some (0, n) else (cnt r k).map fun p => (p.1 + 1, p.2)
def bump : List (Int × Int) → Int → List (Int × Int)
  | [], k => [(k, 1)]
  | (q, n) :: r, k => if q = k then (q, n + 1) :: r else (q, n) :: bump r k
theorem findV_mp (k : Int) : ∀ (tl : List (Int × Int)) (i : Nat), findV (i64 k) (mp tl) i = some ((cnt tl k).map fun p => (i + p.1, i64 p.2))
  | [], i => rfl
  | (q, n) :: r, i => by
    have ih := findV_mp k r (i + 1)
    by_cases h : q = k
    · subst h
      simp [mp, findV, sameV, cnt]
    · have hb : (k == q) = false := by simpa using fun e => h e.symm
      have e1 : findV (i64 k) (mp ((q, n) :: r)) i = findV (i64 k) (mp r) (i + 1) := by
        simp only [mp, List.map_cons, findV, sameV, hb, if_true]
      rw [e1, ih, cnt, if_neg h]
      cases cnt r k with
      | none => rfl
      | some p => simp only [Option.map_some]; congr 3; omega
theorem push_mp {tl : List (Int × Int)} {k : Int} (h : cnt tl k = none) : mp tl ++ [(i64 k, i64 1)] = mp (bump tl k) := by
  induction tl with
  | nil => rfl
  | cons p r ih =>
    obtain ⟨q, n⟩ := p
    rw [cnt] at h
    split at h
    · cases h
    · rename_i hne
      rw [bump, if_neg hne]
      have := ih (by simpa using h)
      simp only [mp, List.map_cons, List.cons_append] at this ⊢
      rw [this]
theorem set_mp {tl : List (Int × Int)} {k : Int} : ∀ {j : Nat} {n : Int}, cnt tl k = some (j, n) → (mp tl)[j]? = some (i64 k, i64 n) ∧ (mp tl).set j (i64 k, i64 (n + 1)) = mp (bump tl k) := by
  induction tl with
  | nil => intro j n h; cases h
  | cons p r ih =>
    intro j n h
    obtain ⟨q, m⟩ := p
    rw [cnt] at h
    split at h
    · rename_i e
      cases h
      subst e
      rw [bump, if_pos rfl]
      exact ⟨rfl, rfl⟩
    · rename_i hne
      obtain ⟨⟨j', n'⟩, h1, h2⟩ := Option.map_eq_some_iff.1 h
      cases h2
      obtain ⟨g1, g2⟩ := ih h1
      rw [bump, if_neg hne]
      refine ⟨by simpa [mp] using g1, ?_⟩
      simp only [mp, List.map_cons, List.set_cons_succ] at g2 ⊢
      rw [g2]
theorem cnt_bump {tl : List (Int × Int)} {k : Int} : ∃ j, cnt (bump tl k) k = some (j, (match cnt tl k with | some (_, n) => n | none => 0) + 1) := by
  induction tl with
  | nil => exact ⟨0, by simp [bump, cnt]⟩
  | cons p r ih =>
    obtain ⟨q, n⟩ := p
    by_cases h : q = k
    · subst h
      exact ⟨0, by simp [bump, cnt]⟩
    · obtain ⟨j, hj⟩ := ih
      refine ⟨j + 1, ?_⟩
      rw [bump, if_neg h, cnt, if_neg h, hj, cnt, if_neg h]
      cases cnt r k <;> rfl
def tally (l : List VoteS) : List (Int × Int) := l.foldl (fun t v => bump t v.fr) []
def pickN (t : List (Int × Int)) : List VoteS → List VoteS
  | [] => []
  | v :: r => if (cnt t v.fr).isSome = true then pickN (bump t v.fr) r else v :: pickN (bump t v.fr) r
def counted (l : List VoteS) : List VoteS := pickN [] l
def Pos (t : List (Int × Int)) (i : Nat) : Prop := ∀ p ∈ t, 1 ≤ p.2 ∧ p.2 ≤ i
theorem pos_bump {t : List (Int × Int)} {i : Nat} {k : Int} (h : Pos t i) : Pos (bump t k) (i + 1) := by
  induction t with
  | nil => intro p hp; simp [bump] at hp; subst hp; simp; omega
  | cons a r ih =>
    obtain ⟨q, n⟩ := a
    have h0 := h (q, n) (by simp)
    have hr : Pos r i := fun p hp => h p (by simp [hp])
    rw [bump]
    split
    · intro p hp
      rcases List.mem_cons.1 hp with rfl | hp
      · simp only; simp only at h0; omega
      · have := hr p hp; omega
    · intro p hp
      rcases List.mem_cons.1 hp with rfl | hp
      · simp only at h0 ⊢; omega
      · exact ih hr p hp
theorem cnt_pos {t : List (Int × Int)} {i : Nat} {k : Int} {j : Nat} {n : Int} (h : Pos t i) (hc : cnt t k = some (j, n)) : 1 ≤ n ∧ n ≤ i := by
  induction t generalizing j with
  | nil => cases hc
  | cons a r ih =>
    obtain ⟨q, m⟩ := a
    rw [cnt] at hc
    split at hc
    · cases hc; exact h (q, n) (by simp)
    · obtain ⟨⟨j', n'⟩, h1, h2⟩ := Option.map_eq_some_iff.1 hc
      cases h2
      exact ih (fun p hp => h p (by simp [hp])) h1
end Go.Proofs.Ytnchceblpogpmaa.AX
