/- How many trips may be gone through; trips as the program has them. -/
import Derived.Test.YtnldlkkcdgdkgaaCh12
namespace Go.Proofs.Ytnldlkkcdgdkgaa.AX
open Go Go.RowKit
set_option linter.unusedSimpArgs false
set_option linter.unusedVariables false
set_option maxRecDepth 100000
set_option maxHeartbeats 4000000
theorem take_one {α : Type} {l : List α} {k : Nat} {x : α} {p : α → Prop} (hx : l[k]? = some x) (h : ∀ y ∈ l.take k, p y) (hp : p x) : ∀ y ∈ l.take (k + 1), p y := by
  intro y hy
  rw [List.take_add_one, hx, List.mem_append] at hy
  rcases hy with hy | hy
  · exact h y hy
  · simp only [Option.toList_some, List.mem_singleton] at hy
    subst hy; exact hp
def fewSn (s : Sn) : Bool := decide (s.key.size ≤ 100 ∧ s.val.size ≤ 100)
def fewWr (w : Wr) : Bool := decide (w.key.size ≤ 100 ∧ w.val.size ≤ 100)
def few1 (t : Trp) : Bool := decide (t.rs.length ≤ 10 ∧ t.ws.length ≤ 10) && (t.rs.all fewSn && t.ws.all fewWr)
def fewT (l : List Trp) : Bool := decide (l.length ≤ 10) && l.all few1
theorem fewT_iff {l : List Trp} : fewT l = true ↔ l.length ≤ 10 ∧ ∀ t ∈ l, few1 t = true := by simp [fewT]
theorem few1_small {t : Trp} (h : few1 t = true) : t.Small := by
  simp only [few1, Bool.and_eq_true, decide_eq_true_eq, List.all_eq_true] at h
  obtain ⟨⟨h1, h2⟩, h3, h4⟩ := h
  refine ⟨by omega, by omega, fun r hr => ?_, fun w hw => ?_⟩
  · have := h3 r hr
    simp only [fewSn, decide_eq_true_eq] at this
    exact this.1
  · have := h4 w hw
    simp only [fewWr, decide_eq_true_eq] at this
    exact this.1
theorem fewT_small {l : List Trp} (h : fewT l = true) : l.length ≤ 10 ∧ ∀ t ∈ l, t.Small := by
  rw [fewT_iff] at h
  exact ⟨h.1, fun t ht => few1_small (h.2 t ht)⟩
theorem c_few (l : List Trp) : Pure Try.prog 9 [.sl (l.map Trp.cs)] (.bool (fewT l)) := by
  refine pureQ_of_aw dOk Try.func9 rfl rfl rfl rfl rfl ?_
  simp [Try.f9]
  refine aw_loopK (α := {i : Nat // i ≤ l.length ∧ i ≤ 11 ∧ ∀ t ∈ l.take i, few1 t = true}) [0, 76, 77, 78] (fun i => [(3, i64 i.1)]) (fun i => l.length - i.1) ⟨0, by simp⟩ (by simp) ?_
  rintro ⟨i, j1, j2, j3⟩
  dsimp only
  by_cases hi : i < l.length ∧ i ≤ 10
  · obtain ⟨t, ht⟩ := getL_some hi.1
    have hw : IntKind.i64.wrap ((i : Int) + 1) = (i : Int) + 1 := wr64 (by omega) (by omega)
    have h2 := eq_true (show (i : Int) ≤ 10 by omega)
    have no : few1 t = false → fewT l = false := fun hf => by
      cases h : fewT l
      · rfl
      · rw [fewT_iff] at h
        rw [h.2 t (List.mem_of_getElem? ht)] at hf
        cases hf
    by_cases a1 : 10 < t.rs.length
    · rw [no (by simp [few1]; omega)]
      have a1' := eq_true (show 10 < (t.rs.length : Int) by omega)
      simp [ht, h2, a1']
      all_goals (intro h; omega)
    · have a1' := eq_false (show ¬ 10 < (t.rs.length : Int) by omega)
      by_cases a2 : 10 < t.ws.length
      · rw [no (by simp [few1]; omega)]
        have a2' := eq_true (show 10 < (t.ws.length : Int) by omega)
        simp [ht, h2, a1', a2']
        all_goals (intro h; omega)
      · have a2' := eq_false (show ¬ 10 < (t.ws.length : Int) by omega)
        simp [ht, h2, a1', a2']
        refine ⟨fun _ => ?_, fun h => by omega⟩
        refine aw_loopK (α := {k : Nat // k ≤ t.rs.length ∧ t.rs.all fewSn = (t.rs.drop k).all fewSn}) [0, 3, 7, 8, 9, 10, 11, 12, 13, 14, 15, 16, 17, 18, 19, 20, 21, 22, 23, 24, 25, 26, 27, 28, 29, 30, 31, 32, 33, 34, 35, 36, 37, 38, 39, 55, 56, 57, 58, 59, 60, 61, 62, 63, 64, 65, 66, 67, 68, 69, 70, 71, 72, 73, 74, 75, 76, 77, 78] (fun k => [(40, i64 k.1)]) (fun k => t.rs.length - k.1) ⟨0, by simp⟩ (by simp) ?_
        rintro ⟨k, k1, k2⟩
        dsimp only
        by_cases hk : k < t.rs.length
        · obtain ⟨x, hx⟩ := getL_some hk
          have hwk := wrI hk (by omega)
          rw [dropL_at hx, List.all_cons] at k2
          by_cases c1 : 100 < x.key.size
          · have e : few1 t = false := by
              have : fewSn x = false := by simp [fewSn]; omega
              rw [few1, k2, this]; simp
            rw [no e]
            have c1' := eq_true (show 100 < (x.key.size : Int) by omega)
            simp [hx, c1']
            all_goals first | omega
          · have c1' := eq_false (show ¬ 100 < (x.key.size : Int) by omega)
            by_cases c2 : 100 < x.val.size
            · have e : few1 t = false := by
                have : fewSn x = false := by simp [fewSn]; omega
                rw [few1, k2, this]; simp
              rw [no e]
              have c2' := eq_true (show 100 < (x.val.size : Int) by omega)
              simp [hx, c1', c2']
              all_goals first | omega
            · have c2' := eq_false (show ¬ 100 < (x.val.size : Int) by omega)
              have e : fewSn x = true := by simp [fewSn]; omega
              rw [e, Bool.true_and] at k2
              simp [hx, c1', c2']
              refine ⟨fun _ => ?_, fun h => by omega⟩
              exact Exists.intro (k + 1) (And.intro (by omega) (And.intro (And.intro (by omega) (by simpa using k2)) (St.to_chk [] (by simp [hwk]))))
        · rw [List.drop_eq_nil_of_le (by omega), List.all_nil] at k2
          simp [hk, ht]
          refine aw_loopK (α := {k : Nat // k ≤ t.ws.length ∧ t.ws.all fewWr = (t.ws.drop k).all fewWr}) [0, 3, 5, 8, 9, 10, 11, 12, 13, 14, 15, 16, 17, 18, 19, 20, 21, 22, 23, 24, 25, 26, 27, 28, 29, 30, 31, 32, 33, 34, 35, 36, 37, 38, 39, 40, 41, 42, 43, 44, 45, 46, 47, 48, 49, 50, 51, 52, 53, 54, 55, 56, 57, 58, 59, 60, 76, 77, 78] (fun k => [(61, i64 k.1)]) (fun k => t.ws.length - k.1) ⟨0, by simp⟩ (by simp) ?_
          rintro ⟨k, q1, q2⟩
          dsimp only
          by_cases hk : k < t.ws.length
          · obtain ⟨x, hx⟩ := getL_some hk
            have hwk := wrI hk (by omega)
            rw [dropL_at hx, List.all_cons] at q2
            by_cases c1 : 100 < x.key.size
            · have e : few1 t = false := by
                have : fewWr x = false := by simp [fewWr]; omega
                rw [few1, q2, this]; simp
              rw [no e]
              have c1' := eq_true (show 100 < (x.key.size : Int) by omega)
              simp [hx, c1']
              all_goals first | omega
            · have c1' := eq_false (show ¬ 100 < (x.key.size : Int) by omega)
              by_cases c2 : 100 < x.val.size
              · have e : few1 t = false := by
                  have : fewWr x = false := by simp [fewWr]; omega
                  rw [few1, q2, this]; simp
                rw [no e]
                have c2' := eq_true (show 100 < (x.val.size : Int) by omega)
                simp [hx, c1', c2']
                all_goals first | omega
              · have c2' := eq_false (show ¬ 100 < (x.val.size : Int) by omega)
                have e : fewWr x = true := by simp [fewWr]; omega
                rw [e, Bool.true_and] at q2
                simp [hx, c1', c2']
                refine ⟨fun _ => ?_, fun h => by omega⟩
                exact Exists.intro (k + 1) (And.intro (by omega) (And.intro (And.intro (by omega) (by simpa using q2)) (St.to_chk [] (by simp [hwk]))))
          · rw [List.drop_eq_nil_of_le (by omega), List.all_nil] at q2
            have hf : few1 t = true := by rw [few1, k2, q2]; simp; omega
            simp [hk]
            exact Exists.intro (i + 1) (And.intro (by omega) (And.intro (And.intro (by omega) (And.intro (by omega) (by simpa using take_one ht j3 hf))) (St.to_chk [] (by simp [hw]))))
  · have e : fewT l = decide (l.length ≤ 10) := by
      by_cases h : l.length ≤ 10
      · have hl : i = l.length := by omega
        have : fewT l = true := by
          rw [fewT_iff]
          refine ⟨h, ?_⟩
          rw [hl, List.take_of_length_le (Nat.le_refl _)] at j3
          exact j3
        rw [this]; simp [h]
      · simp [fewT, h]
    rw [e]
    by_cases hl : i < l.length
    · have h2 := eq_false (show ¬ (i : Int) ≤ 10 by omega)
      simp [hl, h2]
      all_goals first | omega
    · simp [hl]
      all_goals first | omega
end Go.Proofs.Ytnldlkkcdgdkgaa.AX
