/- Votes as the program has them, and how many may be gone through. -/
import Derived.Test.YtnchceblpogpmaaRe14
import Derived.Test.YtnchceblpogpmaaRe15
import Derived.Test.YtnchceblpogpmaaWi14
namespace Go.Proofs.Ytnchceblpogpmaa.AX
open Go Go.RowKit
set_option linter.unusedSimpArgs false
set_option linter.unusedVariables false
set_option maxRecDepth 100000
set_option maxHeartbeats 4000000
theorem eqL_self {α : Type} {f : α → α → Bool} (hf : ∀ a, f a a = true) : ∀ l : List α, eqL f l l = true
  | [] => rfl
  | a :: r => by rw [eqL, hf, eqL_self hf r]; rfl
theorem Cmd.same_self (c : Cmd) : c.same c = true := by
  have h1 := eqL_self (f := eqRd) (fun a => by simp [eqRd]) c.rs
  have h2 := eqL_self (f := eqWr) (fun a => by simp [eqWr]) c.ws
  simp [Cmd.same, h1, h2]
theorem Rec.same_self (r : Rec) : r.same r = true := by
  simp [Rec.same, Cmd.same_self]
def fewV (l : List VoteS) : Bool := decide (l.length ≤ 20) && l.all fun v => few v.r.c
theorem fewV_iff {l : List VoteS} : fewV l = true ↔ l.length ≤ 20 ∧ ∀ v ∈ l, few v.r.c = true := by simp [fewV]
theorem fewV_small {l : List VoteS} (h : fewV l = true) : l.length ≤ 100 ∧ ∀ v ∈ l, v.r.c.Small := by
  rw [fewV_iff] at h
  exact ⟨by omega, fun v hv => few_small (h.2 v hv)⟩
theorem c_fewV (l : List VoteS) : Pure Try.prog 8 [.sl (l.map VoteS.cs)] (.bool (fewV l)) := by
  refine pureQ_of_aw dOk Try.func8 rfl rfl rfl rfl rfl ?_
  simp [Try.f8]
  refine aw_loopK (α := {i : Nat // i ≤ l.length ∧ i ≤ 21 ∧ ∀ v ∈ l.take i, few v.r.c = true}) [0, 23, 24, 25] (fun i => [(3, i64 i.1)]) (fun i => l.length - i.1) ⟨0, by simp⟩ (by simp) ?_
  rintro ⟨i, j1, j2, j3⟩
  dsimp only
  by_cases hi : i < l.length ∧ i ≤ 20
  · obtain ⟨v, hv⟩ := getL_some hi.1
    have hw : IntKind.i64.wrap ((i : Int) + 1) = (i : Int) + 1 := wr64 (by omega) (by omega)
    have h2 := eq_true (show (i : Int) ≤ 20 by omega)
    rcases hf : few v.r.c with _ | _
    · have e : fewV l = false := by
        cases h : fewV l
        · rfl
        · rw [fewV_iff] at h
          rw [h.2 v (List.mem_of_getElem? hv)] at hf
          cases hf
      rw [e]
      simp [hv, h2]
      repeat' (first | intro _ | with_reducible refine And.intro ?_ ?_ | exact chkI (by kernel_rfl) | exact backI (by kernel_rfl) | (refine callA (by first | rfl | (simp; done) | (simp; rfl)) (c_few3 ..) ?_ <;> try simp [hv, hf]) | (refine callB (by first | rfl | (simp; done) | (simp; rfl)) (c_few3 ..) ?_ <;> try simp [hv, hf]) | (refine callA (by first | rfl | (simp; done) | (simp; rfl)) (c_few2 ..) ?_ <;> try simp [hv, hf]) | (refine callB (by first | rfl | (simp; done) | (simp; rfl)) (c_few2 ..) ?_ <;> try simp [hv, hf]) | (refine callA (by first | rfl | (simp; done) | (simp; rfl)) (c_few1 ..) ?_ <;> try simp [hv, hf]) | (refine callB (by first | rfl | (simp; done) | (simp; rfl)) (c_few1 ..) ?_ <;> try simp [hv, hf]) | (refine callA (by first | rfl | (simp; done) | (simp; rfl)) (c_few ..) ?_ <;> try simp [hv, hf]) | (refine callB (by first | rfl | (simp; done) | (simp; rfl)) (c_few ..) ?_ <;> try simp [hv, hf]) | fail)
      all_goals first | omega
    · simp [hv, h2]
      repeat' (first | intro _ | with_reducible refine And.intro ?_ ?_ | exact chkI (by kernel_rfl) | exact backI (by kernel_rfl) | (refine callA (by first | rfl | (simp; done) | (simp; rfl)) (c_few3 ..) ?_ <;> try simp [hv, hf]) | (refine callB (by first | rfl | (simp; done) | (simp; rfl)) (c_few3 ..) ?_ <;> try simp [hv, hf]) | (refine callA (by first | rfl | (simp; done) | (simp; rfl)) (c_few2 ..) ?_ <;> try simp [hv, hf]) | (refine callB (by first | rfl | (simp; done) | (simp; rfl)) (c_few2 ..) ?_ <;> try simp [hv, hf]) | (refine callA (by first | rfl | (simp; done) | (simp; rfl)) (c_few1 ..) ?_ <;> try simp [hv, hf]) | (refine callB (by first | rfl | (simp; done) | (simp; rfl)) (c_few1 ..) ?_ <;> try simp [hv, hf]) | (refine callA (by first | rfl | (simp; done) | (simp; rfl)) (c_few ..) ?_ <;> try simp [hv, hf]) | (refine callB (by first | rfl | (simp; done) | (simp; rfl)) (c_few ..) ?_ <;> try simp [hv, hf]) | fail)
      all_goals first | omega | exact Exists.intro (i + 1) (And.intro (by omega) (And.intro (And.intro (by omega) (And.intro (by omega) (take_one hv j3 hf))) (St.to_chk [] (by simp [hw]))))
  · have e : fewV l = decide (l.length ≤ 20) := by
      by_cases h : l.length ≤ 20
      · have hl : i = l.length := by omega
        have : fewV l = true := by
          rw [fewV_iff]
          refine ⟨h, ?_⟩
          rw [hl, List.take_of_length_le (Nat.le_refl _)] at j3
          exact j3
        rw [this]; simp [h]
      · simp [fewV, h]
    rw [e]
    by_cases hl : i < l.length
    · have h2 := eq_false (show ¬ (i : Int) ≤ 20 by omega)
      simp [hl, h2]
      repeat' (first | intro _ | with_reducible refine And.intro ?_ ?_ | exact chkI (by kernel_rfl) | exact backI (by kernel_rfl) | (refine callA (by first | rfl | (simp; done) | (simp; rfl)) (c_few3 ..) ?_ <;> try simp) | (refine callB (by first | rfl | (simp; done) | (simp; rfl)) (c_few3 ..) ?_ <;> try simp) | (refine callA (by first | rfl | (simp; done) | (simp; rfl)) (c_few2 ..) ?_ <;> try simp) | (refine callB (by first | rfl | (simp; done) | (simp; rfl)) (c_few2 ..) ?_ <;> try simp) | (refine callA (by first | rfl | (simp; done) | (simp; rfl)) (c_few1 ..) ?_ <;> try simp) | (refine callB (by first | rfl | (simp; done) | (simp; rfl)) (c_few1 ..) ?_ <;> try simp) | (refine callA (by first | rfl | (simp; done) | (simp; rfl)) (c_few ..) ?_ <;> try simp) | (refine callB (by first | rfl | (simp; done) | (simp; rfl)) (c_few ..) ?_ <;> try simp) | fail)
      all_goals first | omega
    · simp [hl]
      repeat' (first | intro _ | with_reducible refine And.intro ?_ ?_ | exact chkI (by kernel_rfl) | exact backI (by kernel_rfl) | (refine callA (by first | rfl | (simp; done) | (simp; rfl)) (c_few3 ..) ?_ <;> try simp) | (refine callB (by first | rfl | (simp; done) | (simp; rfl)) (c_few3 ..) ?_ <;> try simp) | (refine callA (by first | rfl | (simp; done) | (simp; rfl)) (c_few2 ..) ?_ <;> try simp) | (refine callB (by first | rfl | (simp; done) | (simp; rfl)) (c_few2 ..) ?_ <;> try simp) | (refine callA (by first | rfl | (simp; done) | (simp; rfl)) (c_few1 ..) ?_ <;> try simp) | (refine callB (by first | rfl | (simp; done) | (simp; rfl)) (c_few1 ..) ?_ <;> try simp) | (refine callA (by first | rfl | (simp; done) | (simp; rfl)) (c_few ..) ?_ <;> try simp) | (refine callB (by first | rfl | (simp; done) | (simp; rfl)) (c_few ..) ?_ <;> try simp) | fail)
      all_goals first | omega
theorem c_given (l : List VoteS) (hl : l.length ≤ 100 := by assumption) : Pure Try.prog 11 [.sl (l.map VoteS.cs)] (.sl (l.map VoteS.cs)) := by
  refine pureQ_of_aw dOk Try.func11 rfl rfl rfl rfl rfl ?_
  simp [Try.f11]
  refine aw_loopKM (α := {i : Nat // i ≤ l.length}) [2, 6, 7, 21] (fun i => [(8, i64 i.1), (3, .rf 0)]) (fun i => [(0, .row false 63 26 ((l.take i.1).map VoteS.cs))]) 1 (fun i => l.length - i.1) ⟨0, by simp⟩ ((St.to_own 3 63 26 rfl (by simp)).trans (St.to_chk [] (by simp))) ?_
  rintro ⟨i, j1⟩
  dsimp only
  by_cases hi : i < l.length
  · obtain ⟨v, hv⟩ := getL_some hi
    have hw := wrI hi (by omega)
    have ht : (l.map VoteS.cs).take (i + 1) = (l.map VoteS.cs).take i ++ [v.cs] := by rw [List.take_add_one, List.getElem?_map, hv]; rfl
    simp [hv]
    repeat' (first | intro _ | with_reducible refine And.intro ?_ ?_ | exact chkI (by kernel_rfl) | exact backI (by kernel_rfl) | fail)
    all_goals first | omega | exact votes_len (by assumption) | (refine Exists.intro (i + 1) (And.intro (by omega) (And.intro (by omega) (St.to_chk [(0, 3)] ?_))); simp [hw, ht]; done)
  · rw [List.take_of_length_le (by omega)]
    simp [hi]
    repeat' (first | intro _ | with_reducible refine And.intro ?_ ?_ | exact chkI (by kernel_rfl) | exact backI (by kernel_rfl) | fail)
    all_goals first | omega
def aw1 : VoteS := ⟨1, ⟨0, 1, 1, 0, 0, 0, 0, .zero, 1, 0, 0, 0, 0, 0, 0, 0, true⟩⟩
def aw2 : VoteS := ⟨2, ⟨0, 1, 0, 0, 0, 0, 0, .zero, 0, 0, 0, 0, 0, 0, 0, 0, false⟩⟩
theorem aw_small : ∀ v ∈ [aw1, aw2], v.r.c.Small := by
  intro v hv
  simp only [List.mem_cons, List.not_mem_nil, or_false] at hv
  rcases hv with rfl | rfl <;> exact zero_small
theorem aw_may : mayE 1 0 1 (counted [aw1, aw2]) = 0 := by decide
theorem aw_dec : decR 1 0 1 [aw1, aw2] = asR aw1.r 2 := by
  rw [decR, if_pos aw_may]
  rfl
theorem c_decA : Pure Try.prog 10 [i64 1, .agg [i64 0, i64 1], .sl [[i64 1, i64 0, i64 1, i64 1, i64 0, i64 0, i64 0, i64 0, i64 0, i64 0, i64 0, i64 0, i64 0, i64 0, .sl [], .sl [], .bool false, i64 1, i64 0, i64 0, i64 0, i64 0, i64 0, i64 0, i64 0, .bool true], [i64 2, i64 0, i64 1, i64 0, i64 0, i64 0, i64 0, i64 0, i64 0, i64 0, i64 0, i64 0, i64 0, i64 0, .sl [], .sl [], .bool false, i64 0, i64 0, i64 0, i64 0, i64 0, i64 0, i64 0, i64 0, .bool false]]] (.tup [.agg (asR aw1.r 2).cs, i64 0]) := by
  have h := c_Decide 1 0 1 [aw1, aw2] (by simp) aw_small
  rw [aw_may, aw_dec] at h
  exact h
theorem c_awake : Pure Try.prog 9 [] (.bool true) := by
  refine pureQ_of_aw dOk Try.func9 rfl rfl rfl rfl rfl ?_
  simp [Try.f9]
  repeat' (first | intro _ | with_reducible refine And.intro ?_ ?_ | exact chkI (by kernel_rfl) | exact backI (by kernel_rfl) | (refine callA (by first | rfl | (simp; done) | (simp; rfl)) (c_decA ..) ?_ <;> try simp [asR, aw1]) | (refine callB (by first | rfl | (simp; done) | (simp; rfl)) (c_decA ..) ?_ <;> try simp [asR, aw1]) | (refine callA (by first | rfl | (simp; done) | (simp; rfl)) (c_Decide ..) ?_ <;> try simp [asR, aw1]) | (refine callB (by first | rfl | (simp; done) | (simp; rfl)) (c_Decide ..) ?_ <;> try simp [asR, aw1]) | fail)
  all_goals first | omega
end Go.Proofs.Ytnchceblpogpmaa.AX
