/- Trips put in order: the walk of the library's insertion sort. -/
import Derived.Test.YtnldlkkcdgdkgaaCh3
namespace Go.Proofs.Ytnldlkkcdgdkgaa.AX
open Go Go.RowKit
set_option linter.unusedSimpArgs false
set_option linter.unusedVariables false
set_option maxRecDepth 100000
set_option maxHeartbeats 4000000
theorem mid_set1 {A rest : List Trp} {j : Nat} {x a : Trp} (h : A[j]? = some a) : ((((midL A (j + 1) x rest).map Trp.cs).set (j + 1) a.cs).set j x.cs) = (midL A j x rest).map Trp.cs := by
  rw [← mid_swap h, List.map_set, List.map_set]
def rowT (l : List Trp) : List (List V) := l.map Trp.cs
theorem c_insT (l : List Trp) (hl : l.length ≤ 100 := by assumption) : Fn Try.prog 46 [.rf 0, i64 0, i64 (l.length : Int), .fn 32 []] [(0, .row false 38 7 (l.map Trp.cs))] 1 (.tup []) [(0, .row false 38 7 ((srtR l).reverse.map Trp.cs))] 1 := by
  have w1 : IntKind.i64.wrap (0 + 1) = 1 := wr64 (by omega) (by omega)
  refine fn_of_aw dOk Try.func46 rfl rfl rfl rfl rfl (by simp) rfl (by simp) ?_
  simp [Try.f46, w1]
  refine aw_loopKM (α := {i : Nat // 1 ≤ i ∧ (i ≤ l.length ∨ i = 1)}) [0, 1, 2, 3] (fun i => [(8, i64 i.1)]) (fun i => [(0, .row false 38 7 (rowT ((srtR (l.take i.1)).reverse ++ l.drop i.1)))]) 1 (fun i => l.length - i.1) ⟨1, by omega, .inr rfl⟩ (St.to_chk [] ?_) ?_
  · have e : (srtR (l.take 1)).reverse ++ l.drop 1 = l := by
      cases l with
      | nil => rfl
      | cons a r => simp [srtR, insL]
    rw [e]
    simp [rowT]
  · rintro ⟨i, i1, i2⟩
    dsimp only
    by_cases hi : i < l.length
    · obtain ⟨x, hx⟩ := getL_some hi
      have hw := wrI hi (by omega)
      have hnext := srtR_take hx
      have hdrop := dropL_at hx
      have hRl : (srtR (l.take i)).length = i := by rw [srtR_len]; simp; omega
      have hw0 := way_0 (srtR (l.take i)) x
      generalize srtR (l.take i) = R at *
      obtain ⟨A, hA⟩ : ∃ A, A = R.reverse := ⟨_, rfl⟩
      have hAl : A.length = i := by rw [hA]; simp [hRl]
      rw [← hA, hdrop]
      have hm0 : A ++ x :: l.drop (i + 1) = midL A i x (l.drop (i + 1)) := by
        have q1 : A.take i = A := List.take_of_length_le (by omega)
        have q2 : A.drop i = [] := List.drop_eq_nil_of_le (by omega)
        rw [midL, q1, q2]
        rfl
      rw [hm0]
      have hi' := eq_true (show (i : Int) < (l.length : Int) by omega)
      simp [hi']
      refine aw_loopKM (α := {j : Nat // j ≤ i ∧ Way R x j}) [0, 1, 2, 3, 8, 12, 13, 14, 15, 16, 17] (fun j => [(9, i64 j.1)]) (fun j => [(0, .row false 38 7 (rowT (midL A j.1 x (l.drop (i + 1)))))]) 1 (fun j => j.1) ⟨i, by omega, by rw [← hRl]; exact hw0⟩ (St.to_chk [] (by simp)) ?_
      rintro ⟨j, j1, j2⟩
      dsimp only
      have hfin : ∀ j, Way R x j → (j = 0 ∨ ∃ k a, j = k + 1 ∧ R.reverse[k]? = some a ∧ lt x a = false) → midL A j x (l.drop (i + 1)) = (srtR (l.take (i + 1))).reverse ++ l.drop (i + 1) := fun j hj he => by
        rw [hnext, way_end hj he, ← hA]
        simp [midL]
      by_cases hj0 : j = 0
      · subst hj0
        have hf := hfin 0 j2 (.inl rfl)
        simp
        repeat' (first | intro _ | with_reducible refine And.intro ?_ ?_ | exact chkI (by kernel_rfl) | exact backI (by kernel_rfl) | fail)
        all_goals first | omega | (refine Exists.intro (i + 1) (And.intro (by omega) (And.intro (And.intro (by omega) (by omega)) (St.to_chk [] ?_))); rw [← hf]; simp [hw]; done)
      · obtain ⟨k, hk⟩ : ∃ k, j = k + 1 := ⟨j - 1, by omega⟩
        obtain ⟨a, ha⟩ := getL_some (l := A) (i := k) (by omega)
        have hp : (rowT (midL A j x (l.drop (i + 1))))[k]? = some a.cs := by rw [rowT, List.getElem?_map, hk, mid_prev ha]; rfl
        have ht : (rowT (midL A j x (l.drop (i + 1))))[j]? = some x.cs := by rw [rowT, List.getElem?_map, mid_at (by omega)]; rfl
        have hset : ((rowT (midL A j x (l.drop (i + 1)))).set j a.cs).set k x.cs = rowT (midL A k x (l.drop (i + 1))) := by rw [hk]; exact mid_set1 ha
        have hset2 : ((rowT (midL A j x (l.drop (i + 1)))).set j a.cs)[k]? = some a.cs := by rw [List.getElem?_set_ne (by omega)]; exact hp
        have hml : (rowT (midL A j x (l.drop (i + 1)))).length = A.length + 1 + (l.drop (i + 1)).length := by rw [rowT, List.length_map]; exact mid_len (by omega)
        have hsub : IntKind.i64.wrap ((j : Int) - 1) = (k : Int) := by rw [wr64 (by omega) (by omega)]; omega
        have hpos := eq_true (show 0 < (j : Int) by omega)
        have hb1 := eq_true (show (j : Int) < ((A.length + 1 + (l.drop (i + 1)).length : Nat) : Int) by omega)
        have hb2 := eq_true (show (k : Int) < ((A.length + 1 + (l.drop (i + 1)).length : Nat) : Int) by omega)
        simp only [Trp.cs] at hp ht hset hset2
        rcases hlt : lt x a with _ | _
        · have hf := hfin j j2 (.inr ⟨k, a, hk, by rw [← hA]; exact ha, hlt⟩)
          have ho := eq_false (of_decide_eq_false hlt)
          simp [hpos, hp, ht, hsub, hml, -Int.natCast_add]
          repeat' (first | intro _ | with_reducible refine And.intro ?_ ?_ | exact chkI (by kernel_rfl) | exact backI (by kernel_rfl) | (refine callA (by first | rfl | (simp; done) | (simp; rfl)) (c_cmpT x a) ?_ <;> try simp [hp, ht, hsub, hml, ho]) | (refine callB (by first | rfl | (simp; done) | (simp; rfl)) (c_cmpT x a) ?_ <;> try simp [hp, ht, hsub, hml, ho]) | fail)
          all_goals first | omega | (exfalso; omega) | (refine Exists.intro (i + 1) (And.intro (by omega) (And.intro (And.intro (by omega) (by omega)) (St.to_chk [] ?_))); rw [← hf]; simp [hw]; done)
        · have ho := eq_true (of_decide_eq_true hlt)
          have hway : Way R x k := way_step (by rw [← hk]; exact j2) (by rw [← hA]; exact ha) hlt
          simp [hpos, hp, ht, hsub, hml, -Int.natCast_add]
          repeat' (first | intro _ | with_reducible refine And.intro ?_ ?_ | exact chkI (by kernel_rfl) | exact backI (by kernel_rfl) | (refine callA (by first | rfl | (simp; done) | (simp; rfl)) (c_cmpT x a) ?_ <;> try simp [hp, ht, hsub, hml, ho, hset2]) | (refine callB (by first | rfl | (simp; done) | (simp; rfl)) (c_cmpT x a) ?_ <;> try simp [hp, ht, hsub, hml, ho, hset2]) | fail)
          all_goals first | omega | (exfalso; omega) | (refine Exists.intro k (And.intro (by omega) (And.intro (And.intro (by omega) hway) (St.to_chk [] ?_))); rw [← hset]; simp [hsub]; done)
    · have e : (srtR (l.take i)).reverse ++ l.drop i = (srtR l).reverse := by
        rw [List.take_of_length_le (by omega), List.drop_eq_nil_of_le (by omega)]
        simp
      rw [e]
      have hi' := eq_false (show ¬ (i : Int) < (l.length : Int) by omega)
      simp [hi', rowT]
      exact St.to_chk [] (by simp)
end Go.Proofs.Ytnldlkkcdgdkgaa.AX
