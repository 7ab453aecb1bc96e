/- The first vote of the greatest ballot. -/
import Derived.Test.YtnchceblpogpmaaRe9
namespace Go.Proofs.Ytnchceblpogpmaa.AX
open Go Go.RowKit
set_option linter.unusedSimpArgs false
set_option linter.unusedVariables false
set_option maxRecDepth 100000
set_option maxHeartbeats 4000000
def nextB (p : VoteS → Bool) (k : Nat) (a : Option (Nat × VoteS)) (v : VoteS) : Option (Nat × VoteS) :=
  if p v = true then (match a with | none => some (k, v) | some (n, u) => if ord u.r.bn u.r.br v.r.bn v.r.br < 0 then some (k, v) else some (n, u)) else a
def bestF (p : VoteS → Bool) : Nat → Option (Nat × VoteS) → List VoteS → Option (Nat × VoteS)
  | _, a, [] => a
  | k, a, v :: r => bestF p (k + 1) (nextB p k a v) r
def best (p : VoteS → Bool) (l : List VoteS) : Option (Nat × VoteS) := bestF p 0 none l
def bi : Option (Nat × VoteS) → Int
  | none => -1
  | some x => (x.1 : Int)
def bv : Option (Nat × VoteS) → Rec
  | none => ⟨0, 0, 0, 0, 0, 0, 0, .zero, 0, 0, 0, 0, 0, 0, 0, 0, false⟩
  | some x => x.2.r
theorem bestF_at (p : VoteS → Bool) : ∀ (r l : List VoteS) (k : Nat) (a : Option (Nat × VoteS)), l.drop k = r → (∀ n u, a = some (n, u) → l[n]? = some u ∧ p u = true) → ∀ n u, bestF p k a r = some (n, u) → l[n]? = some u ∧ p u = true
  | [], l, k, a, h, ha, n, u, e => ha n u e
  | v :: r, l, k, a, h, ha, n, u, e => by
    have hv : l[k]? = some v := by rw [← List.head?_drop, h]; rfl
    have hr : l.drop (k + 1) = r := by rw [← List.drop_drop, h]; rfl
    refine bestF_at p r l (k + 1) (nextB p k a v) hr (fun n' u' e' => ?_) n u e
    unfold nextB at e'
    split at e'
    · rename_i hp
      split at e'
      · cases e'; exact ⟨hv, hp⟩
      · split at e'
        · cases e'; exact ⟨hv, hp⟩
        · cases e'; exact ha _ _ rfl
    · exact ha _ _ e'
theorem best_at {p : VoteS → Bool} {l : List VoteS} {n : Nat} {u : VoteS} (h : best p l = some (n, u)) : l[n]? = some u ∧ p u = true :=
  bestF_at p l l 0 none rfl (fun _ _ e => by cases e) n u h
theorem ord_flip (a b c d : Int) : (0 < ord a b c d) = (ord c d a b < 0) := by
  unfold ord
  apply propext
  split <;> (try split) <;> (try split) <;> (try split) <;> omega
@[reducible] def InvB (p : VoteS → Bool) (l : List VoteS) (x : Nat × Option (Nat × VoteS)) : Prop :=
  x.1 ≤ l.length ∧ bestF p x.1 x.2 (l.drop x.1) = best p l ∧ ∀ n u, x.2 = some (n, u) → n < x.1 ∧ l[n]? = some u
theorem InvB.next {p : VoteS → Bool} {l : List VoteS} {i : Nat} {a b : Option (Nat × VoteS)} {v : VoteS} (h : InvB p l (i, a)) (hv : l[i]? = some v) (hb : nextB p i a v = b) : InvB p l (i + 1, b) := by
  obtain ⟨h1, h2, h3⟩ := h
  dsimp only at h1 h2 h3
  have hi : i < l.length := by rw [List.getElem?_eq_some_iff] at hv; exact hv.1
  refine ⟨hi, ?_, fun n u e => ?_⟩
  · rw [dropL_at hv, bestF, hb] at h2
    exact h2
  · dsimp only at e ⊢
    subst hb
    unfold nextB at e
    split at e
    · split at e
      · cases e; exact ⟨by omega, hv⟩
      · split at e
        · cases e; exact ⟨by omega, hv⟩
        · cases e; have := h3 _ _ rfl; exact ⟨by omega, this.2⟩
    · have := h3 _ _ e; exact ⟨by omega, this.2⟩
theorem InvB.fin {p : VoteS → Bool} {l : List VoteS} {i : Nat} {a : Option (Nat × VoteS)} (h : InvB p l (i, a)) (hi : ¬ i < l.length) : best p l = a := by
  have := h.2.1
  dsimp only at this
  rw [List.drop_eq_nil_of_le (by omega)] at this
  exact this.symm
theorem bi_none : bi none = -1 := rfl
theorem bi_some (n : Nat) (u : VoteS) : bi (some (n, u)) = (n : Int) := rfl
theorem bi_lt (a : Option (Nat × VoteS)) : bi a < 0 ↔ a = none := by
  cases a <;> simp [bi] <;> omega
def isSt (s : Int) (v : VoteS) : Bool := decide (v.r.st = s)
theorem c_best (l : List VoteS) (s : Int) (hl : l.length ≤ 100 := by assumption) : Pure Try.prog 34 [.sl (l.map VoteS.cs), i64 s] (i64 (bi (best (isSt s) l))) := by
  refine pureQ_of_aw dOk Try.func34 rfl rfl rfl rfl rfl ?_
  simp [Try.f34]
  refine aw_loopK (α := {x : Nat × Option (Nat × VoteS) // InvB (isSt s) l x}) [0, 1, 4, 39] (fun x => [(6, i64 x.1.1), (5, i64 (bi x.1.2))]) (fun x => l.length - x.1.1) ⟨(0, none), by simp, rfl, fun _ _ e => by cases e⟩ (by simp [bi]) ?_
  rintro ⟨⟨i, a⟩, j⟩
  have jj := j
  obtain ⟨j1, j2, j3⟩ := jj
  dsimp only at j1 j2 j3 ⊢
  by_cases hi : i < l.length
  · obtain ⟨v, hv⟩ := getL_some hi
    have hw := wrI hi (by omega)
    rcases hp : isSt s v with _ | _
    · have hp' := eq_false (of_decide_eq_false hp)
      have hn : nextB (isSt s) i a v = a := by simp [nextB, hp]
      have J := j.next hv hn
      simp [hv, hp']
      repeat' (first | intro _ | with_reducible refine And.intro ?_ ?_ | exact chkI (by kernel_rfl) | exact backI (by kernel_rfl) | (refine callA (by first | rfl | (simp; done) | (simp; rfl)) (c_lower' ..) ?_ <;> try simp [hv, hp']) | (refine callB (by first | rfl | (simp; done) | (simp; rfl)) (c_lower' ..) ?_ <;> try simp [hv, hp']) | fail)
      all_goals first | omega | (refine Exists.intro (i + 1) (And.intro (by omega) (Exists.intro a (And.intro J (St.to_chk [] ?_)))); simp [hw]; done)
    · have hp' := eq_true (of_decide_eq_true hp)
      rcases a with _ | ⟨n, u⟩
      · have hn : nextB (isSt s) i none v = some (i, v) := by simp [nextB, hp]
        have J := j.next hv hn
        simp [hv, hp', bi_none, bi_some]
        repeat' (first | intro _ | with_reducible refine And.intro ?_ ?_ | exact chkI (by kernel_rfl) | exact backI (by kernel_rfl) | (refine callA (by first | rfl | (simp; done) | (simp; rfl)) (c_lower' ..) ?_ <;> try simp [hv, hp', bi_none, bi_some]) | (refine callB (by first | rfl | (simp; done) | (simp; rfl)) (c_lower' ..) ?_ <;> try simp [hv, hp', bi_none, bi_some]) | fail)
        all_goals first | omega | (refine Exists.intro (i + 1) (And.intro (by omega) (Exists.intro (some (i, v)) (And.intro J (St.to_chk [] ?_)))); simp [hw, bi_none, bi_some]; done)
      · obtain ⟨k1, k2⟩ := j3 n u rfl
        have hnn := eq_false (show ¬ (n : Int) < 0 by omega)
        by_cases ho : ord u.r.bn u.r.br v.r.bn v.r.br < 0
        · have hn : nextB (isSt s) i (some (n, u)) v = some (i, v) := by simp [nextB, hp, ho]
          have J := j.next hv hn
          have ho' := eq_true ho
          simp [hv, hp', bi_none, bi_some, k2, hnn]
          repeat' (first | intro _ | with_reducible refine And.intro ?_ ?_ | exact chkI (by kernel_rfl) | exact backI (by kernel_rfl) | (refine callA (by first | rfl | (simp; done) | (simp; rfl)) (c_lower' ..) ?_ <;> try simp [hv, hp', bi_none, bi_some, k2, ho', hnn]) | (refine callB (by first | rfl | (simp; done) | (simp; rfl)) (c_lower' ..) ?_ <;> try simp [hv, hp', bi_none, bi_some, k2, ho', hnn]) | fail)
          all_goals first | omega | (refine Exists.intro (i + 1) (And.intro (by omega) (Exists.intro (some (i, v)) (And.intro J (St.to_chk [] ?_)))); simp [hw, bi_none, bi_some]; done)
        · have hn : nextB (isSt s) i (some (n, u)) v = some (n, u) := by simp [nextB, hp, ho]
          have J := j.next hv hn
          have ho' := eq_false ho
          simp [hv, hp', bi_none, bi_some, k2, hnn]
          repeat' (first | intro _ | with_reducible refine And.intro ?_ ?_ | exact chkI (by kernel_rfl) | exact backI (by kernel_rfl) | (refine callA (by first | rfl | (simp; done) | (simp; rfl)) (c_lower' ..) ?_ <;> try simp [hv, hp', bi_none, bi_some, k2, ho', hnn]) | (refine callB (by first | rfl | (simp; done) | (simp; rfl)) (c_lower' ..) ?_ <;> try simp [hv, hp', bi_none, bi_some, k2, ho', hnn]) | fail)
          all_goals first | omega | (refine Exists.intro (i + 1) (And.intro (by omega) (Exists.intro (some (n, u)) (And.intro J (St.to_chk [] ?_)))); simp [hw, bi_none, bi_some]; done)
  · have e := j.fin hi
    rw [e]
    simp [hi]
    repeat' (first | intro _ | with_reducible refine And.intro ?_ ?_ | exact chkI (by kernel_rfl) | exact backI (by kernel_rfl) | (refine callA (by first | rfl | (simp; done) | (simp; rfl)) (c_lower' ..) ?_ <;> try simp) | (refine callB (by first | rfl | (simp; done) | (simp; rfl)) (c_lower' ..) ?_ <;> try simp) | fail)
    all_goals first | omega
end Go.Proofs.Ytnchceblpogpmaa.AX
