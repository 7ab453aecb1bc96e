/- Trips one behind the other, each of which read what was there: plain. -/
import Derived.Test.YtnldlkkcdgdkgaaCh18
namespace Go.Proofs.Ytnldlkkcdgdkgaa.AX
open Go Go.RowKit
set_option linter.unusedSimpArgs false
set_option linter.unusedVariables false
set_option maxRecDepth 100000
set_option maxHeartbeats 4000000
def mkS (run : List Trp) (tm : Int) (s : Sn) : Sn := ⟨s.key, (thereS run s.key tm 0).1.1, (thereS run s.key tm 0).1.2, (thereS run s.key tm 0).2⟩
def mkX (run : List Trp) (i : Nat) (t : Trp) : Trp := ⟨0, (i : Int) + 1, 2 * (i : Int) + 1, 0, t.rs.map (mkS run (2 * (i : Int) + 1)), t.ws, 1⟩
def runN : Nat → List Trp → List Trp → List Trp
  | _, run, [] => run
  | i, run, t :: r => runN (i + 1) (run ++ [mkX run i t]) r
/-- A run: trips of rising times. -/
def Run (L : List Trp) : Prop := ∀ (i : Nat) (t : Trp), L[i]? = some t → t.cl = 0 ∧ t.nm = (i : Int) + 1 ∧ t.tm = 2 * (i : Int) + 1 ∧ t.ac = 0 ∧ t.oc = 1
/-- Each read what was there. -/
def ReadT (L : List Trp) : Prop := ∀ (i : Nat) (t : Trp), L[i]? = some t → ∀ s ∈ t.rs, thereS (L.take i) s.key t.tm t.ac = ((s.tm, s.ac), s.val)
theorem Run.snoc {L : List Trp} {t : Trp} (h : Run L) (ht : t.cl = 0 ∧ t.nm = (L.length : Int) + 1 ∧ t.tm = 2 * (L.length : Int) + 1 ∧ t.ac = 0 ∧ t.oc = 1) : Run (L ++ [t]) := by
  intro i x hx
  by_cases hi : i < L.length
  · rw [List.getElem?_append_left hi] at hx
    exact h i x hx
  · rw [List.getElem?_append_right (by omega)] at hx
    have : i - L.length = 0 := by have := (List.getElem?_eq_some_iff.1 hx).1; simp at this; omega
    rw [this] at hx
    cases hx
    have e : i = L.length := by omega
    rw [e]; exact ht
theorem ReadT.snoc {L : List Trp} {t : Trp} (h : ReadT L) (ht : ∀ s ∈ t.rs, thereS L s.key t.tm t.ac = ((s.tm, s.ac), s.val)) : ReadT (L ++ [t]) := by
  intro i x hx s hs
  by_cases hi : i < L.length
  · rw [List.getElem?_append_left hi] at hx
    rw [List.take_append_of_le_length (by omega)]
    exact h i x hx s hs
  · rw [List.getElem?_append_right (by omega)] at hx
    have : i - L.length = 0 := by have := (List.getElem?_eq_some_iff.1 hx).1; simp at this; omega
    rw [this] at hx
    cases hx
    rw [List.take_append_of_le_length (by omega), List.take_of_length_le (by omega)]
    exact ht s hs
theorem Run.pair {L : List Trp} (h : Run L) : L.Pairwise fun a b => a.nm < b.nm ∧ a.tm < b.tm := by
  rw [List.pairwise_iff_getElem]
  intro i j hi hj hij
  have h1 := h i L[i] (by simp [hi])
  have h2 := h j L[j] (by simp [hj])
  omega
theorem Run.all {L : List Trp} (h : Run L) : ∀ t ∈ L, isCm t = true ∧ t.ac = 0 := fun t ht => by
  obtain ⟨i, hi⟩ := List.getElem?_of_mem ht
  have := h i t hi
  exact ⟨by simp [isCm, this], this.2.2.2.1⟩
theorem Run.good {L : List Trp} (h : Run L) : Good L := by
  have hp := h.pair
  have hf : L.filter isCm = L := List.filter_eq_self.2 fun t ht => (h.all t ht).1
  refine ⟨?_, ?_⟩
  · rw [List.nodup_iff_pairwise_ne, List.pairwise_map]
    exact hp.imp fun hab e => by
      have := congrArg Prod.snd e
      simp only [nmP] at this
      omega
  · unfold Apart
    rw [hf, List.nodup_iff_pairwise_ne, List.pairwise_map]
    exact hp.imp fun hab e => by
      have := congrArg Prod.fst e
      simp only [tmP] at this
      omega
theorem Run.twice {L : List Trp} (h : Run L) : twiceS L = false := (twice_good L).2 h.good
theorem Run.take {L : List Trp} (h : Run L) (k : Nat) : Run (L.take k) := fun i t ht => by
  rw [List.getElem?_take] at ht
  split at ht
  · exact h i t ht
  · cases ht
/-- Trips of later times change nothing. -/
theorem Run.there {L : List Trp} (h : Run L) (k : Nat) (key : ByteArray) : thereS L key (2 * (k : Int) + 1) 0 = thereS (L.take k) key (2 * (k : Int) + 1) 0 := by
  rw [there_eq h.twice, there_eq (h.take k).twice, thereR, thereR]
  have skip : ∀ (r : List Trp) (s : Bool × Acc), (∀ t ∈ r, ¬ ord t.tm t.ac (2 * (k : Int) + 1) 0 < 0) → r.foldl (stepR key (2 * (k : Int) + 1) 0) s = s := by
    intro r
    induction r with
    | nil => intro s _; rfl
    | cons t r ih =>
      intro s hr
      rw [List.foldl_cons, stepR_eq, if_neg (fun hh => hr t (by simp) hh.2)]
      exact ih s fun x hx => hr x (by simp [hx])
  have e : L.foldl (stepR key (2 * (k : Int) + 1) 0) (false, ((0, 0), ⟨#[]⟩)) = (L.take k ++ L.drop k).foldl (stepR key (2 * (k : Int) + 1) 0) (false, ((0, 0), ⟨#[]⟩)) := by rw [List.take_append_drop]
  rw [e, List.foldl_append, skip]
  intro t ht
  obtain ⟨j, hj⟩ := List.getElem?_of_mem ht
  rw [List.getElem?_drop] at hj
  have := h _ t hj
  rw [ord_lt]
  omega
theorem Run.ok {L : List Trp} (h : Run L) (hr : ReadT L) (ha : L.all rightT = true) : cheI (thereS L) L = -1 ∧ cheE (thereS L) L = 0 := by
  have hn : firstW (thereS L) 0 L = none := firstW_none.2 fun t ht => by
    obtain ⟨i, hi⟩ := List.getElem?_of_mem ht
    have hti := h i t hi
    rw [wrongT]
    have : t.rs.any (badS (thereS L) t) = false := List.any_eq_false.2 fun s hs => by
      have h1 := hr i t hi s hs
      rw [hti.2.2.1, hti.2.2.2.1] at h1
      rw [badS, hti.2.2.1, hti.2.2.2.1, h.there i s.key, h1]
      simp
    rw [this, Bool.and_false]
  exact ⟨by simp only [cheI, ha, h.twice, hn]; rfl, by simp only [cheE, ha, h.twice, hn]; rfl⟩
/-- The first read of a trip, told to be of a later version. -/
def late (t : Trp) : Trp := { t with rs := match t.rs with | [] => [] | s :: r => { s with tm := s.tm + 1 } :: r }
theorem firstW_at (th : Th) : ∀ (a : List Trp) (t : Trp) (b : List Trp) (i : Nat), (∀ x ∈ a, wrongT th x = false) → wrongT th t = true → firstW th i (a ++ t :: b) = some (i + a.length)
  | [], t, b, i, _, h => by simp [firstW, h]
  | x :: a, t, b, i, ha, h => by
    rw [List.cons_append, firstW, ha x (by simp), if_neg (by simp), firstW_at th a t b (i + 1) (fun y hy => ha y (by simp [hy])) h]
    simp; omega
theorem late_run {L : List Trp} (h : Run L) {k : Nat} {t : Trp} (hk : L[k]? = some t) : Run (L.set k (late t)) := by
  have hlt := (List.getElem?_eq_some_iff.1 hk).1
  intro i x hx
  by_cases e : i = k
  · subst e
    rw [List.getElem?_set_self hlt] at hx
    cases hx
    exact h i t hk
  · rw [List.getElem?_set_ne (fun h => e h.symm)] at hx
    exact h i x hx
theorem stepR_late (key : ByteArray) (tm ac : Int) (s : Bool × Acc) (t : Trp) : stepR key tm ac s (late t) = stepR key tm ac s t := rfl
theorem late_there {L : List Trp} (h : Run L) {k : Nat} {t : Trp} (hk : L[k]? = some t) : thereS (L.set k (late t)) = thereS L := by
  rw [there_eq (late_run h hk).twice, there_eq h.twice]
  funext key tm ac
  rw [thereR, thereR]
  have hlt := (List.getElem?_eq_some_iff.1 hk).1
  have e1 : L = L.take k ++ t :: L.drop (k + 1) := by rw [← dropL_at hk, List.take_append_drop]
  have e2 : L.set k (late t) = L.take k ++ late t :: L.drop (k + 1) := by
    conv => lhs; rw [e1]
    rw [List.set_append_right _ _ (by simp; omega)]
    have : k - (L.take k).length = 0 := by simp; omega
    rw [this, List.set_cons_zero]
  rw [e2]
  conv => rhs; rw [e1]
  rw [List.foldl_append, List.foldl_append, List.foldl_cons, List.foldl_cons, stepR_late]
theorem late_right {t : Trp} (h : rightT t = true) (hb : ∀ s ∈ t.rs, s.tm < 1000000 ∧ 0 ≤ s.tm) : rightT (late t) = true := by
  rcases hr : t.rs with _ | ⟨s, r⟩
  · have : late t = t := by simp [late, hr]; cases t; simp_all
    rw [this]; exact h
  · have hs := hb s (by rw [hr]; simp)
    simp only [rightT, headT, rkeys, wkeys, late, hr, List.all_cons, List.map_cons] at h ⊢
    simp only [Bool.and_eq_true, decide_eq_true_eq, okSn, okStm] at h ⊢
    obtain ⟨h1, ⟨⟨h2, h3⟩, h4⟩, h5⟩ := h
    exact ⟨h1, ⟨⟨by omega, h3⟩, h4⟩, h5⟩
theorem Run.late {L : List Trp} (h : Run L) (hr : ReadT L) (ha : L.all rightT = true) {k : Nat} {t : Trp} (hk : L[k]? = some t) (hne : t.rs ≠ []) (hb : ∀ s ∈ t.rs, s.tm < 1000000 ∧ 0 ≤ s.tm) :
    cheI (thereS (L.set k (late t))) (L.set k (late t)) = k ∧ cheE (thereS (L.set k (late t))) (L.set k (late t)) = 16 := by
  have hlt := (List.getElem?_eq_some_iff.1 hk).1
  have hti := h k t hk
  have e2 : L.set k (AX.late t) = L.take k ++ AX.late t :: L.drop (k + 1) := by
    have e1 : L = L.take k ++ t :: L.drop (k + 1) := by rw [← dropL_at hk, List.take_append_drop]
    conv => lhs; rw [e1]
    rw [List.set_append_right _ _ (by simp; omega)]
    have : k - (L.take k).length = 0 := by simp; omega
    rw [this, List.set_cons_zero]
  have ha2 : (L.set k (AX.late t)).all rightT = true := by
    rw [List.all_eq_true] at ha ⊢
    intro x hx
    rcases List.mem_or_eq_of_mem_set hx with hx | rfl
    · exact ha x hx
    · exact late_right (ha t (List.mem_of_getElem? hk)) hb
  have hf : firstW (thereS (L.set k (AX.late t))) 0 (L.set k (AX.late t)) = some k := by
    rw [late_there h hk, e2, firstW_at]
    · simp; omega
    · intro x hx
      obtain ⟨i, hi⟩ := List.getElem?_of_mem hx
      rw [List.getElem?_take] at hi
      split at hi
      · have hti := h i x hi
        rw [wrongT]
        have : x.rs.any (badS (thereS L) x) = false := List.any_eq_false.2 fun s hs => by
          have h1 := hr i x hi s hs
          rw [hti.2.2.1, hti.2.2.2.1] at h1
          rw [badS, hti.2.2.1, hti.2.2.2.1, h.there i s.key, h1]
          simp
        rw [this, Bool.and_false]
      · cases hi
    · rcases hrs : t.rs with _ | ⟨s, r⟩
      · exact absurd hrs hne
      · have h1 := hr k t hk s (by rw [hrs]; simp)
        rw [hti.2.2.1, hti.2.2.2.1] at h1
        have hcm : isCm (AX.late t) = true := by simp [isCm, AX.late, hti]
        rw [wrongT, hcm, Bool.true_and]
        simp only [AX.late, hrs, List.any_cons, Bool.or_eq_true]
        left
        rw [badS]
        simp only [hti.2.2.1, hti.2.2.2.1]
        rw [h.there k s.key, h1]
        simp
        omega
  have ht2 := (late_run h hk).twice
  exact ⟨by simp only [cheI, ha2, ht2, hf]; rfl, by simp only [cheE, ha2, ht2, hf]; rfl⟩
end Go.Proofs.Ytnldlkkcdgdkgaa.AX
