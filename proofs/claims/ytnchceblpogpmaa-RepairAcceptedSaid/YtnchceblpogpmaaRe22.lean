/- Votes of replicas, one each: plain. -/
import Derived.Test.YtnchceblpogpmaaRe19
import Derived.Test.YtnchceblpogpmaaRe21
namespace Go.Proofs.Ytnchceblpogpmaa.AX
open Go Go.RowKit
set_option linter.unusedSimpArgs false
set_option linter.unusedVariables false
set_option maxRecDepth 100000
set_option maxHeartbeats 4000000
def voteOf (k : Nat) : Option Rec → List VoteS
  | none => []
  | some r => [⟨(k : Int), r⟩]
def votesOf (g : Nat → Option Rec) : Nat → List VoteS
  | 0 => []
  | n + 1 => votesOf g n ++ voteOf n (g n)
theorem votesOf_len (g : Nat → Option Rec) : ∀ n, (votesOf g n).length ≤ n
  | 0 => Nat.le_refl _
  | n + 1 => by
    have ih := votesOf_len g n
    rw [votesOf, List.length_append]
    have : (voteOf n (g n)).length ≤ 1 := by cases g n <;> simp [voteOf]
    omega
theorem votesOf_mem {g : Nat → Option Rec} : ∀ {n : Nat} {v : VoteS}, v ∈ votesOf g n → ∃ k, k < n ∧ v.fr = (k : Int) ∧ g k = some v.r
  | 0, v, h => by cases h
  | n + 1, v, h => by
    rw [votesOf, List.mem_append] at h
    rcases h with h | h
    · obtain ⟨k, h1, h2, h3⟩ := votesOf_mem h
      exact ⟨k, by omega, h2, h3⟩
    · rcases hg : g n with _ | r
      · rw [hg] at h; cases h
      · rw [hg] at h
        simp only [voteOf, List.mem_singleton] at h
        subst h
        exact ⟨n, by omega, rfl, hg⟩
theorem votesOf_has {g : Nat → Option Rec} {k : Nat} {r : Rec} (h : g k = some r) : ∀ {n : Nat}, k < n → (⟨(k : Int), r⟩ : VoteS) ∈ votesOf g n
  | 0, hk => by omega
  | n + 1, hk => by
    rw [votesOf, List.mem_append]
    by_cases hn : k = n
    · subst hn
      rw [h]
      exact .inr (by simp [voteOf])
    · exact .inl (votesOf_has h (by omega))
theorem votesOf_counted (g : Nat → Option Rec) : ∀ n, counted (votesOf g n) = votesOf g n
  | 0 => rfl
  | n + 1 => by
    have ih := votesOf_counted g n
    rw [votesOf]
    rcases hg : g n with _ | r
    · simpa [voteOf] using ih
    · rw [voteOf, counted, pickN_snoc, ← counted, ih]
      have := cnt_tally (votesOf g n) n
      rw [tally] at this
      simp only
      rw [this, if_neg]
      intro h
      obtain ⟨v, h1, h2⟩ := List.any_eq_true.1 h
      obtain ⟨k, h3, h4, -⟩ := votesOf_mem h1
      have := of_decide_eq_true h2
      omega
theorem mayE_of {f ir is : Int} {l : List VoteS} (h1 : okInst ir is = true) (h2 : ir < szN f) (h3 : ∀ v ∈ l, badV (szN f) ir is v = false) : mayE f ir is l = if (l.length : Int) < slN f then 13 else 0 := by
  unfold mayE
  rw [if_neg, if_neg]
  · intro h
    obtain ⟨v, hv, hb⟩ := List.any_eq_true.1 h
    rw [h3 v hv] at hb
    cases hb
  · rintro (h | h)
    · rw [h1] at h; cases h
    · omega
theorem not_bad {n ir is : Int} {v : VoteS} (h1 : 0 ≤ v.fr) (h2 : v.fr < n) (h3 : v.r.ir = ir) (h4 : v.r.is = is) (h5 : v.r.right = true) : badV n ir is v = false := by
  simp only [badV, Bool.or_eq_false_iff, decide_eq_false_iff_not, Bool.not_eq_false']
  exact ⟨by omega, h5⟩
/-! ### All but one know it as pre-accepted -/
def gFast (ir who set : Int) (r odd : Rec) (k : Nat) : Option Rec := if (k : Int) = ir ∨ hasS set k = false then none else some (if (k : Int) = who then odd else r)
theorem quickN_snoc (l : List VoteS) (v : VoteS) : quickN (l ++ [v]) = quickN l + (if v.quick = true then 1 else 0) := by
  simp only [quickN, List.filter_append]
  by_cases h : v.quick = true <;> simp [h]
theorem gFast_quick {ir who set : Int} {r odd : Rec} (hq : ∀ q, (⟨q, r⟩ : VoteS).quick = true) : ∀ n, ((votesOf (gFast ir who set r odd) n).length : Int) ≤ quickN (votesOf (gFast ir who set r odd) n) + (if 0 ≤ who ∧ who < n then 1 else 0)
  | 0 => by simp [votesOf, quickN]; split <;> omega
  | n + 1 => by
    have ih := gFast_quick (ir := ir) (who := who) (set := set) (odd := odd) hq n
    rw [votesOf]
    by_cases h1 : (n : Int) = ir ∨ hasS set n = false
    · have e : gFast ir who set r odd n = none := by rw [gFast, if_pos h1]
      rw [e, voteOf, List.append_nil]
      split at ih <;> split <;> omega
    · by_cases h2 : (n : Int) = who
      · have e : gFast ir who set r odd n = some odd := by rw [gFast, if_neg h1, if_pos h2]
        rw [e, voteOf, quickN_snoc, List.length_append]
        rw [if_neg (by omega)] at ih
        rw [if_pos (show 0 ≤ who ∧ who < ((n + 1 : Nat) : Int) by omega)]
        simp only [List.length_singleton]
        split <;> omega
      · have e : gFast ir who set r odd n = some r := by rw [gFast, if_neg h1, if_neg h2]
        rw [e, voteOf, quickN_snoc, List.length_append, if_pos (hq _)]
        simp only [List.length_singleton]
        split at ih <;> split <;> omega
theorem fast_law {f who set : Int} {r odd : Rec} (h1 : okInst r.ir r.is = true) (h2 : r.ir < szN f) (hr : r.right = true) (ho : odd.right = true) (hi : odd.ir = r.ir ∧ odd.is = r.is) (hst : r.st = 1 ∧ r.bn = 0 ∧ r.br = 0 ∧ r.kept = true) (hos : odd.st ≤ 1 ∧ odd.kept = false) {l : List VoteS} (hl : l = votesOf (gFast r.ir who set r odd) (szN f).toNat) :
    ((l.length : Int) < f + 1 → mayE f r.ir r.is (counted l) = 13) ∧ (¬ (l.length : Int) < f + 1 → mayE f r.ir r.is (counted l) = 0 ∧ decR f r.ir r.is l = asR r 2) := by
  have hc : counted l = l := by rw [hl]; exact votesOf_counted _ _
  have hz : 1 ≤ f ∧ f ≤ 3 := by
    have : 0 ≤ r.ir := by simp only [okInst, decide_eq_true_eq] at h1; omega
    unfold szN at h2
    split at h2 <;> omega
  have hsl : slN f = f + 1 := by unfold slN; rw [if_pos hz]
  have hm : ∀ v ∈ l, (v.r = r ∨ v.r = odd) ∧ 0 ≤ v.fr ∧ v.fr < szN f ∧ v.fr ≠ r.ir := by
    intro v hv
    rw [hl] at hv
    obtain ⟨k, g1, g2, g3⟩ := votesOf_mem hv
    unfold gFast at g3
    split at g3
    · cases g3
    · rename_i hn
      have : v.r = if (k : Int) = who then odd else r := (Option.some.inj g3).symm
      refine ⟨?_, by omega, by omega, fun e => hn (.inl (by omega))⟩
      split at this
      · exact .inr this
      · exact .inl this
  have hb : ∀ v ∈ l, badV (szN f) r.ir r.is v = false := by
    intro v hv
    obtain ⟨g1, g2, g3, g4⟩ := hm v hv
    rcases g1 with g | g
    · exact not_bad g2 g3 (by rw [g]) (by rw [g]) (by rw [g]; exact hr)
    · exact not_bad g2 g3 (by rw [g]; exact hi.1) (by rw [g]; exact hi.2) (by rw [g]; exact ho)
  have hme := mayE_of h1 h2 hb
  rw [hsl] at hme
  refine ⟨fun h => by rw [hc, hme, if_pos h], fun h => ?_⟩
  rw [if_neg h] at hme
  refine ⟨by rw [hc, hme], ?_⟩
  have hq : ∀ q, (⟨q, r⟩ : VoteS).quick = true := fun q => by simp [VoteS.quick, hst]
  have hqq := gFast_quick (ir := r.ir) (who := who) (set := set) (odd := odd) hq (szN f).toNat
  rw [← hl] at hqq
  have hfn : f ≤ quickN l := by
    split at hqq <;> omega
  have hf : fastS f r.ir r.is l = true := by
    rw [fastS_own (by rw [hc, hme]), hc]
    have : l.any (own r.ir) = false := List.any_eq_false.2 fun v hv => by simpa [own] using (hm v hv).2.2.2
    rw [this]
    simp [hfn]
  have no : ∀ s : Int, 2 ≤ s → ∀ v ∈ l, isSt s v = false := fun s hs v hv => by
    have : v.r.st ≤ 1 := by
      rcases (hm v hv).1 with g | g <;> rw [g]
      · omega
      · exact hos.1
    simp [isSt]; omega
  have e3 : l.find? (isSt 3) = none := List.find?_eq_none.2 fun v hv => by rw [no 3 (by omega) v hv]; simp
  have e2 : best (isSt 2) l = none := by
    rcases hbb : best (isSt 2) l with _ | ⟨n, u⟩
    · rfl
    · have := best_at hbb
      rw [no 2 (by omega) u (List.mem_of_getElem? this.1)] at this
      cases this.2
  obtain ⟨v, hv⟩ := quickN_find (l := l) (by omega)
  have hvr : v.r = r := by
    rcases (hm v (List.mem_of_find?_eq_some hv)).1 with g | g
    · exact g
    · have := List.find?_some hv
      simp [VoteS.quick, g, hos.2] at this
  rw [decR, hc, if_pos hme, decS, e3, e2]
  simp only [hf, if_true, hv, hvr]
/-! ### What a majority accepted -/
theorem ord_lt {a b c d : Int} : ord a b c d < 0 ↔ a < c ∨ a = c ∧ b < d := by
  unfold ord
  split
  · omega
  · split <;> omega
theorem bestF_max {p : VoteS → Bool} : ∀ {l : List VoteS} {k n : Nat} {a : Option (Nat × VoteS)} {u : VoteS}, bestF p k a l = some (n, u) →
    (∀ v ∈ l, p v = true → ¬ ord u.r.bn u.r.br v.r.bn v.r.br < 0) ∧ ∀ m w, a = some (m, w) → ¬ ord u.r.bn u.r.br w.r.bn w.r.br < 0
  | [], k, n, a, u, h => ⟨fun v hv => (by cases hv), fun m w e => (by
    rw [bestF, e] at h
    cases h
    rw [ord_lt]
    omega)⟩
  | v :: r, k, n, a, u, h => by
    rw [bestF] at h
    obtain ⟨h1, h2⟩ := bestF_max h
    by_cases hp : p v = true
    · rcases a with _ | ⟨m, w⟩
      · have e : nextB p k none v = some (k, v) := by simp [nextB, hp]
        refine ⟨fun x hx hpx => ?_, fun m w e => by cases e⟩
        rcases List.mem_cons.1 hx with rfl | hx
        · exact h2 _ _ e
        · exact h1 x hx hpx
      · by_cases ho : ord w.r.bn w.r.br v.r.bn v.r.br < 0
        · have e : nextB p k (some (m, w)) v = some (k, v) := by simp [nextB, hp, ho]
          have hv := h2 _ _ e
          refine ⟨fun x hx hpx => ?_, fun m' w' e' => ?_⟩
          · rcases List.mem_cons.1 hx with rfl | hx
            · exact hv
            · exact h1 x hx hpx
          · cases e'
            rw [ord_lt] at hv ho ⊢
            omega
        · have e : nextB p k (some (m, w)) v = some (m, w) := by simp [nextB, hp, ho]
          have hw := h2 _ _ e
          refine ⟨fun x hx hpx => ?_, fun m' w' e' => ?_⟩
          · rcases List.mem_cons.1 hx with rfl | hx
            · rw [ord_lt] at hw ho ⊢
              omega
            · exact h1 x hx hpx
          · cases e'
            exact hw
    · have e : nextB p k a v = a := by simp [nextB, hp]
      rw [e] at h2
      refine ⟨fun x hx hpx => ?_, h2⟩
      rcases List.mem_cons.1 hx with rfl | hx
      · exact absurd hpx hp
      · exact h1 x hx hpx
def gAcc (had set : Int) (r : Rec) (o : Nat → Rec) (k : Nat) : Option Rec := if hasS set k = true then some (if hasS had k = true then r else o k) else none
/-- Two majorities meet. -/
theorem meet {p q : Nat → Bool} : ∀ {n : Nat}, (∀ k, k < n → ¬ (p k = true ∧ q k = true)) → ((List.range n).filter p).length + ((List.range n).filter q).length ≤ n
  | 0, h => by simp
  | n + 1, h => by
    have ih := meet (p := p) (q := q) (n := n) fun k hk => h k (by omega)
    have hn := h n (by omega)
    rw [List.range_succ, List.filter_append, List.filter_append, List.length_append, List.length_append]
    have e1 : ([n].filter p).length = if p n = true then 1 else 0 := by by_cases h : p n = true <;> simp [h]
    have e2 : ([n].filter q).length = if q n = true then 1 else 0 := by by_cases h : q n = true <;> simp [h]
    rw [e1, e2]
    split <;> split <;> first | omega | (exfalso; exact hn ⟨by assumption, by assumption⟩)
theorem gAcc_len (had set : Int) (r : Rec) (o : Nat → Rec) : ∀ n, (votesOf (gAcc had set r o) n).length = ((List.range n).filter fun k : Nat => hasS set (k : Int)).length
  | 0 => rfl
  | n + 1 => by
    rw [votesOf, List.length_append, gAcc_len had set r o n, List.range_succ, List.filter_append, List.length_append]
    by_cases h : hasS set n = true <;> simp [gAcc, voteOf, h]
theorem acc_law {f had set : Int} {r : Rec} {o : Nat → Rec} (h2 : r.ir < szN f) (hr : r.right = true) (hst : r.st = 2) (hh : slN f ≤ majS f had) (hs : slN f ≤ majS f set)
    (ho : ∀ k, k < (szN f).toNat → (o k).ir = r.ir ∧ (o k).is = r.is ∧ (o k).right = true ∧ (o k).st ≠ 3 ∧ ((o k).st = 2 → ord (o k).bn (o k).br r.bn r.br < 0)) {l : List VoteS} (hl : l = votesOf (gAcc had set r o) (szN f).toNat) :
    mayE f r.ir r.is (counted l) = 0 ∧ decR f r.ir r.is l = asR r 2 := by
  have hc : counted l = l := by rw [hl]; exact votesOf_counted _ _
  have h1 : okInst r.ir r.is = true := by simp only [Rec.right, Bool.and_eq_true] at hr; exact hr.1
  have hz : 1 ≤ f ∧ f ≤ 3 := by
    have : 0 ≤ r.ir := by simp only [okInst, decide_eq_true_eq] at h1; omega
    unfold szN at h2
    split at h2 <;> omega
  have hsl : slN f = f + 1 := by unfold slN; rw [if_pos hz]
  have hsz : szN f = 2 * f + 1 := by unfold szN; rw [if_pos hz]
  have hm : ∀ v ∈ l, 0 ≤ v.fr ∧ v.fr < szN f ∧ (v.r = r ∨ ∃ k, k < (szN f).toNat ∧ v.r = o k) := by
    intro v hv
    rw [hl] at hv
    obtain ⟨k, g1, g2, g3⟩ := votesOf_mem hv
    unfold gAcc at g3
    split at g3
    · have : v.r = if hasS had k = true then r else o k := (Option.some.inj g3).symm
      refine ⟨by omega, by omega, ?_⟩
      split at this
      · exact .inl this
      · exact .inr ⟨k, g1, this⟩
    · cases g3
  have hb : ∀ v ∈ l, badV (szN f) r.ir r.is v = false := by
    intro v hv
    obtain ⟨g2, g3, g1⟩ := hm v hv
    rcases g1 with g | ⟨k, gk, g⟩
    · exact not_bad g2 g3 (by rw [g]) (by rw [g]) (by rw [g]; exact hr)
    · have := ho k gk
      exact not_bad g2 g3 (by rw [g]; exact this.1) (by rw [g]; exact this.2.1) (by rw [g]; exact this.2.2.1)
  have hlen : (l.length : Int) = majS f set := by rw [hl, gAcc_len]; rfl
  have hme := mayE_of h1 h2 hb
  rw [if_neg (by omega)] at hme
  refine ⟨by rw [hc, hme], ?_⟩
  have n3 : ∀ v ∈ l, isSt 3 v = false := by
    intro v hv
    rcases (hm v hv).2.2 with g | ⟨k, gk, g⟩
    · simp [isSt, g, hst]
    · have := (ho k gk).2.2.2.1
      simp [isSt, g, this]
  have e3 : l.find? (isSt 3) = none := List.find?_eq_none.2 fun v hv => by rw [n3 v hv]; simp
  obtain ⟨k, hk, hk1, hk2⟩ : ∃ k, k < (szN f).toNat ∧ hasS had (k : Int) = true ∧ hasS set (k : Int) = true := by
    refine Classical.byContradiction fun hno => ?_
    have := meet (p := fun k : Nat => hasS had (k : Int)) (q := fun k : Nat => hasS set (k : Int)) (n := (szN f).toNat) fun k hk hp => hno ⟨k, hk, hp.1, hp.2⟩
    unfold majS at hh hs
    omega
  have hin : (⟨(k : Int), r⟩ : VoteS) ∈ l := by
    rw [hl]
    exact votesOf_has (by simp [gAcc, hk1, hk2]) hk
  rcases hbb : best (isSt 2) l with _ | ⟨n, u⟩
  · have := best_none hbb _ hin
    simp [isSt, hst] at this
  · have hat := best_at hbb
    have hmax := (bestF_max hbb).1 _ hin (by simp [isSt, hst])
    have hu : u.r = r := by
      rcases (hm u (List.mem_of_getElem? hat.1)).2.2 with g | ⟨j, gj, g⟩
      · exact g
      · have h2 : (o j).st = 2 := by
          have := hat.2
          simp only [isSt, decide_eq_true_eq, g] at this
          exact this
        have := (ho j gj).2.2.2.2 h2
        rw [g] at hmax
        exact absurd this hmax
    rw [decR, hc, if_pos hme, decS, e3]
    simp only [hbb, hu]
end Go.Proofs.Ytnchceblpogpmaa.AX
