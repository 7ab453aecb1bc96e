/- Few commands: those that a law goes through. -/
import Derived.Test.YtalkadbpdaoifaaWi4
namespace Go.Proofs.Ytalkadbpdaoifaa.AX
open Go Go.RowKit
set_option linter.unusedSimpArgs false
set_option linter.unusedVariables false
set_option maxRecDepth 100000
set_option maxHeartbeats 4000000
def few (c : Cmd) : Bool := decide (c.rs.length ≤ 20) && (decide (c.ws.length ≤ 20) && (c.rs.all (fun r => decide (r.key.size ≤ 100)) && c.ws.all (fun w => decide (w.key.size ≤ 100 ∧ w.val.size ≤ 100))))
theorem few_iff {c : Cmd} : few c = true ↔ c.rs.length ≤ 20 ∧ c.ws.length ≤ 20 ∧ (∀ r ∈ c.rs, r.key.size ≤ 100) ∧ ∀ w ∈ c.ws, w.key.size ≤ 100 ∧ w.val.size ≤ 100 := by
  simp [few, List.all_eq_true]
theorem few_no {c : Cmd} (h : ¬ (c.rs.length ≤ 20 ∧ c.ws.length ≤ 20 ∧ (∀ r ∈ c.rs, r.key.size ≤ 100) ∧ ∀ w ∈ c.ws, w.key.size ≤ 100 ∧ w.val.size ≤ 100)) : few c = false := by
  cases he : few c
  · rfl
  · exact absurd (few_iff.1 he) h
theorem few_small {c : Cmd} (h : few c = true) : c.Small := by
  obtain ⟨h1, h2, h3, h4⟩ := few_iff.1 h
  exact ⟨by omega, by omega, h3, h4⟩
theorem take_one {α : Type} {l : List α} {k : Nat} {x : α} {p : α → Prop} (hx : l[k]? = some x) (h : ∀ y ∈ l.take k, p y) (hp : p x) : ∀ y ∈ l.take (k + 1), p y := by
  rw [List.take_add_one, hx]
  intro y hy
  simp at hy
  rcases hy with hy | hy
  · exact h y hy
  · rw [hy]; exact hp
theorem take_all {α : Type} {l : List α} {k : Nat} {p : α → Prop} (h : ∀ y ∈ l.take k, p y) (hk : ¬ (k < l.length ∧ k ≤ 20)) : l.length ≤ 20 → ∀ y ∈ l, p y := by
  intro hl y hy
  exact h y (by rw [List.take_of_length_le (by omega)]; exact hy)
theorem c_few (l : List Cmd) (hl : l.length ≤ 100) : Pure Try.prog 10 [.sl (l.map Cmd.cs)] (.bool (l.all few)) := by
  refine pureQ_of_aw dOk Try.func10 rfl rfl rfl rfl rfl ?_
  simp [Try.f10, -List.all_eq_true, -List.all_eq_false]
  refine aw_loopK (α := {i : Nat // i ≤ l.length ∧ l.all few = (l.drop i).all few}) [7, 8] (fun i => [(9, i64 i.1)]) (fun i => l.length - i.1) ⟨0, by simp⟩ (by simp) ?_
  rintro ⟨i, j1, j2⟩
  dsimp only
  by_cases hi : i < l.length
  · obtain ⟨c, hc⟩ := getL_some hi
    have hw := wrI hi (by omega)
    have j3 : (l.drop i).all few = (few c && (l.drop (i + 1)).all few) := by rw [dropL_at hc]; simp
    rw [j3] at j2
    have jf : few c = false → l.all few = false := fun h => by rw [h] at j2; simpa using j2
    have jt : few c = true → l.all few = (l.drop (i + 1)).all few := fun h => by rw [h] at j2; simpa using j2
    clear j2 j3
    simp [hc]
    repeat' (first | intro _ | with_reducible refine And.intro ?_ ?_ | exact chkI (by kernel_rfl) | exact backI (by kernel_rfl) | fail)
    · refine aw_loopKM (α := {k : Nat // k ≤ c.rs.length ∧ k ≤ 21 ∧ ∀ x ∈ c.rs.take k, x.key.size ≤ 100}) [4, 6, 7, 8, 9, 10, 11, 12, 32, 33, 34, 35, 36, 37, 38, 39, 40, 41, 42, 43, 44, 45, 46, 47, 48, 49, 50, 51, 52, 53, 54, 55, 56, 57, 58, 59, 60, 61, 62, 63, 64, 65, 66, 67, 68, 69, 70, 71] (fun k => [(5, i64 k.1)]) (fun _ => [(0, .box false 33 c.cs)]) 1 (fun k => c.rs.length - k.1) ⟨0, by simp⟩ (St.to_chk [] (by simp)) ?_
      rintro ⟨k, k1, k2, k3⟩
      dsimp only
      by_cases hk : k < c.rs.length ∧ k ≤ 20
      · obtain ⟨x, hx⟩ := getL_some hk.1
        have hwk : IntKind.i64.wrap ((k : Int) + 1) = (k : Int) + 1 := wr64 (by omega) (by omega)
        have hxm := List.mem_of_getElem? hx
        by_cases hs : x.key.size ≤ 100
        · simp [eq_true (show (k : Int) ≤ 20 by omega), hx, eq_false (show ¬ (100 < (x.key.size : Int)) by omega)]
          repeat' (first | intro _ | with_reducible refine And.intro ?_ ?_ | exact chkI (by kernel_rfl) | exact backI (by kernel_rfl) | fail)
          · exact Exists.intro (k + 1) (And.intro (by omega) (And.intro (And.intro (by omega) (And.intro (by omega) (take_one hx k3 hs))) (St.to_chk [] (by simp [hwk]))))
          all_goals omega
        · have hf := jf (few_no fun h => hs (h.2.2.1 x hxm))
          simp [eq_true (show (k : Int) ≤ 20 by omega), hx, eq_true (show (100 < (x.key.size : Int)) by omega)]
          repeat' (first | intro _ | with_reducible refine And.intro ?_ ?_ | exact chkI (by kernel_rfl) | exact backI (by kernel_rfl) | fail)
          all_goals first | omega | (simpa using hf)
      · have hr := take_all k3 hk
        have hkf : (((k : Int) < (c.rs.length : Int)) = False ∧ True = True) ∨ (((k : Int) < (c.rs.length : Int)) = True ∧ ((k : Int) ≤ 20) = False) := by
          by_cases g : k < c.rs.length
          · exact .inr ⟨eq_true (by omega), eq_false (by omega)⟩
          · exact .inl ⟨eq_false (by omega), rfl⟩
        clear k3
        rcases hkf with ⟨hkA, hkB⟩ | ⟨hkA, hkB⟩
        all_goals
          simp [hkA, hkB]
          repeat' (first | intro _ | with_reducible refine And.intro ?_ ?_ | exact chkI (by kernel_rfl) | exact backI (by kernel_rfl) | fail)
          refine aw_loopKM (α := {q : Nat // q ≤ c.ws.length ∧ q ≤ 21 ∧ ∀ x ∈ c.ws.take q, x.key.size ≤ 100 ∧ x.val.size ≤ 100}) [4, 5, 7, 8, 9, 10, 11, 12, 13, 14, 15, 16, 17, 18, 19, 20, 21, 22, 23, 24, 25, 26, 27, 28, 29, 30, 31, 61, 62, 63, 64, 65, 66, 67, 68, 69, 70, 71] (fun q => [(6, i64 q.1)]) (fun _ => [(0, .box false 33 c.cs)]) 1 (fun q => c.ws.length - q.1) ⟨0, by simp⟩ (St.to_chk [] (by simp)) ?_
          rintro ⟨q, q1, q2, q3⟩
          dsimp only
          by_cases hq : q < c.ws.length ∧ q ≤ 20
          · obtain ⟨x, hx⟩ := getL_some hq.1
            have hwq : IntKind.i64.wrap ((q : Int) + 1) = (q : Int) + 1 := wr64 (by omega) (by omega)
            have hxm := List.mem_of_getElem? hx
            by_cases hs : x.key.size ≤ 100 ∧ x.val.size ≤ 100
            · simp [eq_true (show (q : Int) ≤ 20 by omega), hx, eq_false (show ¬ (100 < (x.key.size : Int)) by omega), eq_false (show ¬ (100 < (x.val.size : Int)) by omega)]
              repeat' (first | intro _ | with_reducible refine And.intro ?_ ?_ | exact chkI (by kernel_rfl) | exact backI (by kernel_rfl) | fail)
              all_goals first | omega | exact Exists.intro (q + 1) (And.intro (by omega) (And.intro (And.intro (by omega) (And.intro (by omega) (take_one hx q3 hs))) (St.to_chk [] (by simp [hwq]))))
            · have hf := jf (few_no fun h => hs (h.2.2.2 x hxm))
              simp [eq_true (show (q : Int) ≤ 20 by omega), hx]
              repeat' (first | intro _ | with_reducible refine And.intro ?_ ?_ | exact chkI (by kernel_rfl) | exact backI (by kernel_rfl) | fail)
              all_goals first | omega | (simpa using hf)
          · have hr2 := take_all q3 hq
            have hqf : (((q : Int) < (c.ws.length : Int)) = False ∧ True = True) ∨ (((q : Int) < (c.ws.length : Int)) = True ∧ ((q : Int) ≤ 20) = False) := by
              by_cases g : q < c.ws.length
              · exact .inr ⟨eq_true (by omega), eq_false (by omega)⟩
              · exact .inl ⟨eq_false (by omega), rfl⟩
            clear q3
            have hfull : few c = false ∨ few c = true ∧ c.rs.length ≤ 20 ∧ c.ws.length ≤ 20 := by
              by_cases h1 : c.rs.length ≤ 20
              · by_cases h2 : c.ws.length ≤ 20
                · exact .inr ⟨few_iff.2 ⟨h1, h2, hr h1, hr2 h2⟩, h1, h2⟩
                · exact .inl (few_no fun h => h2 h.2.1)
              · exact .inl (few_no fun h => h1 h.1)
            have hbig : few c = true ∨ few c = false := by cases few c <;> simp
            rcases hqf with ⟨hqA, hqB⟩ | ⟨hqA, hqB⟩
            all_goals
              simp [hqA, hqB]
              repeat' (first | intro _ | with_reducible refine And.intro ?_ ?_ | exact chkI (by kernel_rfl) | exact backI (by kernel_rfl) | fail)
              all_goals first
                | omega
                | (exact ⟨c, List.mem_of_getElem? hc, by rcases hfull with h | h; exact h; omega⟩)
                | (exact Exists.intro (i + 1) (And.intro (by omega) (And.intro (And.intro (by omega) (jt (by rcases hfull with h | h; (have := few_no (c := c) (fun h' => by rw [few_iff.2 h'] at h; cases h); exact few_iff.2 ⟨by omega, by omega, hr (by omega), hr2 (by omega)⟩); exact h.1))) (St.to_chk [] (by simp [hw])))))
    · omega
  · rw [List.drop_eq_nil_of_le (by omega)] at j2
    have j4 : l.all few = true := by rw [j2]; rfl
    simp [hi]
    repeat' (first | intro _ | with_reducible refine And.intro ?_ ?_ | exact chkI (by kernel_rfl) | exact backI (by kernel_rfl) | fail)
    all_goals first | omega | (simp at j4; exact j4 _ (by assumption))
theorem c_few1 (a : Cmd) : Pure Try.prog 10 [.sl [a.cs]] (.bool (few a)) := by
  have := c_few [a] (by simp)
  simpa only [List.map_cons, List.map_nil, List.all_cons, List.all_nil, Bool.and_true] using this
theorem c_few2 (a b : Cmd) : Pure Try.prog 10 [.sl [a.cs, b.cs]] (.bool (few a && few b)) := by
  have := c_few [a, b] (by simp)
  simpa only [List.map_cons, List.map_nil, List.all_cons, List.all_nil, Bool.and_true] using this
theorem c_few3 (a b c : Cmd) : Pure Try.prog 10 [.sl [a.cs, b.cs, c.cs]] (.bool (few a && (few b && few c))) := by
  have := c_few [a, b, c] (by simp)
  simpa only [List.map_cons, List.map_nil, List.all_cons, List.all_nil, Bool.and_true] using this
end Go.Proofs.Ytalkadbpdaoifaa.AX
