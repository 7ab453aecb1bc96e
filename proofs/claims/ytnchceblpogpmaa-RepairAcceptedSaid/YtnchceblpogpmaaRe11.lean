/- The first vote of the greatest ballot, as the program has it: with a closure. -/
import Derived.Test.YtnchceblpogpmaaRe10
namespace Go.Proofs.Ytnchceblpogpmaa.AX
open Go Go.RowKit
set_option linter.unusedSimpArgs false
set_option linter.unusedVariables false
set_option maxRecDepth 100000
set_option maxHeartbeats 4000000
theorem c_of (s : Int) : Fn Try.prog 26 [i64 s] [] 0 (.fn 27 [.ptr 0 0]) [(0, .box false 3 [i64 s])] 1 := by
  refine fn_of_aw dOk Try.func26 rfl rfl rfl rfl rfl (by simp) rfl (by simp) ?_
  simp [Try.f26]
  exact St.to_chk [] (by simp)
theorem c_is (v : VoteS) (s : Int) : Fn Try.prog 27 [.agg v.cs, .ptr 0 0] [(0, .box false 3 [i64 s])] 1 (.bool (isSt s v)) [(0, .box false 3 [i64 s])] 1 := by
  refine fn_of_aw dOk Try.func27 rfl rfl rfl rfl rfl (by simp) rfl (by simp) ?_
  simp [Try.f27]
  repeat' (first | intro _ | with_reducible refine And.intro ?_ ?_ | exact chkI (by kernel_rfl) | exact backI (by kernel_rfl) | fail)
  all_goals exact St.to_chk [] (by simp [isSt])
def bvN : Option (Nat × VoteS) → V
  | none => .agg [i64 0, i64 0, i64 0, i64 0, i64 0, i64 0, i64 0, i64 0, i64 0, i64 0, i64 0, i64 0, i64 0, .nl, .nl, .bool false, i64 0, i64 0, i64 0, i64 0, i64 0, i64 0, i64 0, i64 0, .bool false]
  | some x => .agg x.2.r.cs
theorem ord_gt {a b c d : Int} (h : ord c d a b < 0) : 0 < ord a b c d := by rw [ord_flip]; exact h
theorem ord_ngt {a b c d : Int} (h : ¬ ord c d a b < 0) : ¬ 0 < ord a b c d := by rw [ord_flip]; exact h
theorem c_pickS (l : List VoteS) (s : Int) (hl : l.length ≤ 100 := by assumption) : Fn Try.prog 29 [.sl (l.map VoteS.cs), .fn 27 [.ptr 0 0]] [(0, .box false 3 [i64 s])] 1 (.tup [(bvN (best (isSt s) l)), .bool (best (isSt s) l).isSome]) [(0, .box false 3 [i64 s])] 1 := by
  refine fn_of_aw dOk Try.func29 rfl rfl rfl rfl rfl (by simp) rfl (by simp) ?_
  simp [Try.f29]
  refine aw_loopK (α := {x : Nat × Option (Nat × VoteS) // InvB (isSt s) l x}) [0, 1, 4, 5, 9, 10, 38, 39, 40, 41, 42, 43, 44, 45] (fun x => [(11, i64 x.1.1), (6, i64 (bi x.1.2))]) (fun x => l.length - x.1.1) ⟨(0, none), by simp, rfl, fun _ _ e => by cases e⟩ (by simp [bi]) ?_
  rintro ⟨⟨i, a⟩, j⟩
  have jj := j
  obtain ⟨j1, j2, j3⟩ := jj
  dsimp only at j1 j2 j3 ⊢
  by_cases hi : i < l.length
  · obtain ⟨v, hv⟩ := getL_some hi
    have hw := wrI hi (by omega)
    rcases hp : isSt s v with _ | _
    · have hn : nextB (isSt s) i a v = a := by simp [nextB, hp]
      have J := j.next hv hn
      simp [hv]
      repeat' (first | intro _ | with_reducible refine And.intro ?_ ?_ | exact chkI (by kernel_rfl) | exact backI (by kernel_rfl) | (refine callA (by first | rfl | (simp; done) | (simp; rfl)) (c_cmpBal ..) ?_ <;> try simp [hv, hp]) | (refine callB (by first | rfl | (simp; done) | (simp; rfl)) (c_cmpBal ..) ?_ <;> try simp [hv, hp]) | (refine callHD (by first | ((refine ⟨?_, ?_, ?_, ?_⟩ <;> repeat' (first | exact rfl | exact Or.inl rfl | exact Or.inr rfl | exact trivial | with_reducible constructor | refine ⟨?_, ?_⟩ | (simp; done))); done) | fail) (c_is ..) rfl ?_ <;> try simp [hv, hp]) | (refine callH (by first | ((refine ⟨?_, ?_, ?_, ?_⟩ <;> repeat' (first | exact rfl | exact Or.inl rfl | exact Or.inr rfl | exact trivial | with_reducible constructor | refine ⟨?_, ?_⟩ | (simp; done))); done) | fail) (c_is ..) ?_ <;> try simp [hv, hp]) | fail)
      all_goals first | omega | (refine Exists.intro (i + 1) (And.intro (by omega) (Exists.intro a (And.intro J (St.to_chk [] ?_)))); simp [hw]; done)
    · rcases a with _ | ⟨n, u⟩
      · have hn : nextB (isSt s) i none v = some (i, v) := by simp [nextB, hp]
        have J := j.next hv hn
        simp [hv, bi_none, bi_some]
        repeat' (first | intro _ | with_reducible refine And.intro ?_ ?_ | exact chkI (by kernel_rfl) | exact backI (by kernel_rfl) | (refine callA (by first | rfl | (simp; done) | (simp; rfl)) (c_cmpBal ..) ?_ <;> try simp [hv, hp, bi_none, bi_some]) | (refine callB (by first | rfl | (simp; done) | (simp; rfl)) (c_cmpBal ..) ?_ <;> try simp [hv, hp, bi_none, bi_some]) | (refine callHD (by first | ((refine ⟨?_, ?_, ?_, ?_⟩ <;> repeat' (first | exact rfl | exact Or.inl rfl | exact Or.inr rfl | exact trivial | with_reducible constructor | refine ⟨?_, ?_⟩ | (simp; done))); done) | fail) (c_is ..) rfl ?_ <;> try simp [hv, hp, bi_none, bi_some]) | (refine callH (by first | ((refine ⟨?_, ?_, ?_, ?_⟩ <;> repeat' (first | exact rfl | exact Or.inl rfl | exact Or.inr rfl | exact trivial | with_reducible constructor | refine ⟨?_, ?_⟩ | (simp; done))); done) | fail) (c_is ..) ?_ <;> try simp [hv, hp, bi_none, bi_some]) | fail)
        all_goals first | omega | (refine Exists.intro (i + 1) (And.intro (by omega) (Exists.intro (some (i, v)) (And.intro J (St.to_chk [] ?_)))); simp [hw, bi_none, bi_some]; done)
      · obtain ⟨k1, k2⟩ := j3 n u rfl
        have hnn := eq_false (show ¬ (n : Int) < 0 by omega)
        by_cases ho : ord u.r.bn u.r.br v.r.bn v.r.br < 0
        · have hn : nextB (isSt s) i (some (n, u)) v = some (i, v) := by simp [nextB, hp, ho]
          have J := j.next hv hn
          have ho' := eq_true (ord_gt ho)
          simp [hv, bi_none, bi_some, k2, hnn]
          repeat' (first | intro _ | with_reducible refine And.intro ?_ ?_ | exact chkI (by kernel_rfl) | exact backI (by kernel_rfl) | (refine callA (by first | rfl | (simp; done) | (simp; rfl)) (c_cmpBal ..) ?_ <;> try simp [hv, hp, bi_none, bi_some, k2, ho', hnn]) | (refine callB (by first | rfl | (simp; done) | (simp; rfl)) (c_cmpBal ..) ?_ <;> try simp [hv, hp, bi_none, bi_some, k2, ho', hnn]) | (refine callHD (by first | ((refine ⟨?_, ?_, ?_, ?_⟩ <;> repeat' (first | exact rfl | exact Or.inl rfl | exact Or.inr rfl | exact trivial | with_reducible constructor | refine ⟨?_, ?_⟩ | (simp; done))); done) | fail) (c_is ..) rfl ?_ <;> try simp [hv, hp, bi_none, bi_some, k2, ho', hnn]) | (refine callH (by first | ((refine ⟨?_, ?_, ?_, ?_⟩ <;> repeat' (first | exact rfl | exact Or.inl rfl | exact Or.inr rfl | exact trivial | with_reducible constructor | refine ⟨?_, ?_⟩ | (simp; done))); done) | fail) (c_is ..) ?_ <;> try simp [hv, hp, bi_none, bi_some, k2, ho', hnn]) | fail)
          all_goals first | omega | (refine Exists.intro (i + 1) (And.intro (by omega) (Exists.intro (some (i, v)) (And.intro J (St.to_chk [] ?_)))); simp [hw, bi_none, bi_some]; done)
        · have hn : nextB (isSt s) i (some (n, u)) v = some (n, u) := by simp [nextB, hp, ho]
          have J := j.next hv hn
          have ho' := eq_false (ord_ngt ho)
          simp [hv, bi_none, bi_some, k2, hnn]
          repeat' (first | intro _ | with_reducible refine And.intro ?_ ?_ | exact chkI (by kernel_rfl) | exact backI (by kernel_rfl) | (refine callA (by first | rfl | (simp; done) | (simp; rfl)) (c_cmpBal ..) ?_ <;> try simp [hv, hp, bi_none, bi_some, k2, ho', hnn]) | (refine callB (by first | rfl | (simp; done) | (simp; rfl)) (c_cmpBal ..) ?_ <;> try simp [hv, hp, bi_none, bi_some, k2, ho', hnn]) | (refine callHD (by first | ((refine ⟨?_, ?_, ?_, ?_⟩ <;> repeat' (first | exact rfl | exact Or.inl rfl | exact Or.inr rfl | exact trivial | with_reducible constructor | refine ⟨?_, ?_⟩ | (simp; done))); done) | fail) (c_is ..) rfl ?_ <;> try simp [hv, hp, bi_none, bi_some, k2, ho', hnn]) | (refine callH (by first | ((refine ⟨?_, ?_, ?_, ?_⟩ <;> repeat' (first | exact rfl | exact Or.inl rfl | exact Or.inr rfl | exact trivial | with_reducible constructor | refine ⟨?_, ?_⟩ | (simp; done))); done) | fail) (c_is ..) ?_ <;> try simp [hv, hp, bi_none, bi_some, k2, ho', hnn]) | fail)
          all_goals first | omega | (refine Exists.intro (i + 1) (And.intro (by omega) (Exists.intro (some (n, u)) (And.intro J (St.to_chk [] ?_)))); simp [hw, bi_none, bi_some]; done)
  · have e := j.fin hi
    rw [e]
    rcases a with _ | ⟨n, u⟩
    · simp [hi, bi_none, bi_some]
      repeat' (first | intro _ | with_reducible refine And.intro ?_ ?_ | exact chkI (by kernel_rfl) | exact backI (by kernel_rfl) | (refine callA (by first | rfl | (simp; done) | (simp; rfl)) (c_cmpBal ..) ?_ <;> try simp [bi_none, bvN, Cmd.zero]) | (refine callB (by first | rfl | (simp; done) | (simp; rfl)) (c_cmpBal ..) ?_ <;> try simp [bi_none, bvN, Cmd.zero]) | fail)
      all_goals first | omega | exact St.to_chk [] (by simp [bvN])
    · obtain ⟨k1, k2⟩ := j3 n u rfl
      have hnn := eq_false (show ¬ (n : Int) < 0 by omega)
      simp [hi, bi_none, bi_some, k2, hnn]
      repeat' (first | intro _ | with_reducible refine And.intro ?_ ?_ | exact chkI (by kernel_rfl) | exact backI (by kernel_rfl) | (refine callA (by first | rfl | (simp; done) | (simp; rfl)) (c_cmpBal ..) ?_ <;> try simp [bi_none, bi_some, k2, hnn, bvN]) | (refine callB (by first | rfl | (simp; done) | (simp; rfl)) (c_cmpBal ..) ?_ <;> try simp [bi_none, bi_some, k2, hnn, bvN]) | fail)
      all_goals first | omega | exact St.to_chk [] (by simp [bvN])
theorem c_pickF (l : List VoteS) (hl : l.length ≤ 100 := by assumption) : Fn Try.prog 29 [.sl (l.map VoteS.cs), .fn 30 []] [] 0 (.tup [(bvN (best (VoteS.quick) l)), .bool (best (VoteS.quick) l).isSome]) [] 0 := by
  refine fn_of_aw dOk Try.func29 rfl rfl rfl rfl rfl (by simp) rfl (by simp) ?_
  simp [Try.f29]
  refine aw_loopK (α := {x : Nat × Option (Nat × VoteS) // InvB (VoteS.quick) l x}) [0, 1, 4, 5, 9, 10, 38, 39, 40, 41, 42, 43, 44, 45] (fun x => [(11, i64 x.1.1), (6, i64 (bi x.1.2))]) (fun x => l.length - x.1.1) ⟨(0, none), by simp, rfl, fun _ _ e => by cases e⟩ (by simp [bi]) ?_
  rintro ⟨⟨i, a⟩, j⟩
  have jj := j
  obtain ⟨j1, j2, j3⟩ := jj
  dsimp only at j1 j2 j3 ⊢
  by_cases hi : i < l.length
  · obtain ⟨v, hv⟩ := getL_some hi
    have hw := wrI hi (by omega)
    rcases hp : VoteS.quick v with _ | _
    · have hn : nextB (VoteS.quick) i a v = a := by simp [nextB, hp]
      have J := j.next hv hn
      simp [hv]
      repeat' (first | intro _ | with_reducible refine And.intro ?_ ?_ | exact chkI (by kernel_rfl) | exact backI (by kernel_rfl) | (refine callA (by first | rfl | (simp; done) | (simp; rfl)) (c_cmpBal ..) ?_ <;> try simp [hv, hp]) | (refine callB (by first | rfl | (simp; done) | (simp; rfl)) (c_cmpBal ..) ?_ <;> try simp [hv, hp]) | (refine callH (by first | ((refine ⟨?_, ?_, ?_, ?_⟩ <;> repeat' (first | exact rfl | exact Or.inl rfl | exact Or.inr rfl | exact trivial | with_reducible constructor | refine ⟨?_, ?_⟩ | (simp; done))); done) | fail) (c_pickS ..) ?_ <;> try simp [hv, hp]) | (refine callHD (by first | ((refine ⟨?_, ?_, ?_, ?_⟩ <;> repeat' (first | exact rfl | exact Or.inl rfl | exact Or.inr rfl | exact trivial | with_reducible constructor | refine ⟨?_, ?_⟩ | (simp; done))); done) | fail) (c_pickS ..) rfl ?_ <;> try simp [hv, hp]) | (refine callB (by first | rfl | (simp; done) | (simp; rfl)) (c_fast ..) ?_ <;> try simp [hv, hp]) | (refine callA (by first | rfl | (simp; done) | (simp; rfl)) (c_fast ..) ?_ <;> try simp [hv, hp]) | fail)
      all_goals first | omega | (refine Exists.intro (i + 1) (And.intro (by omega) (Exists.intro a (And.intro J (St.to_chk [] ?_)))); simp [hw]; done)
    · rcases a with _ | ⟨n, u⟩
      · have hn : nextB (VoteS.quick) i none v = some (i, v) := by simp [nextB, hp]
        have J := j.next hv hn
        simp [hv, bi_none, bi_some]
        repeat' (first | intro _ | with_reducible refine And.intro ?_ ?_ | exact chkI (by kernel_rfl) | exact backI (by kernel_rfl) | (refine callA (by first | rfl | (simp; done) | (simp; rfl)) (c_cmpBal ..) ?_ <;> try simp [hv, hp, bi_none, bi_some]) | (refine callB (by first | rfl | (simp; done) | (simp; rfl)) (c_cmpBal ..) ?_ <;> try simp [hv, hp, bi_none, bi_some]) | (refine callH (by first | ((refine ⟨?_, ?_, ?_, ?_⟩ <;> repeat' (first | exact rfl | exact Or.inl rfl | exact Or.inr rfl | exact trivial | with_reducible constructor | refine ⟨?_, ?_⟩ | (simp; done))); done) | fail) (c_pickS ..) ?_ <;> try simp [hv, hp, bi_none, bi_some]) | (refine callHD (by first | ((refine ⟨?_, ?_, ?_, ?_⟩ <;> repeat' (first | exact rfl | exact Or.inl rfl | exact Or.inr rfl | exact trivial | with_reducible constructor | refine ⟨?_, ?_⟩ | (simp; done))); done) | fail) (c_pickS ..) rfl ?_ <;> try simp [hv, hp, bi_none, bi_some]) | (refine callB (by first | rfl | (simp; done) | (simp; rfl)) (c_fast ..) ?_ <;> try simp [hv, hp, bi_none, bi_some]) | (refine callA (by first | rfl | (simp; done) | (simp; rfl)) (c_fast ..) ?_ <;> try simp [hv, hp, bi_none, bi_some]) | fail)
        all_goals first | omega | (refine Exists.intro (i + 1) (And.intro (by omega) (Exists.intro (some (i, v)) (And.intro J (St.to_chk [] ?_)))); simp [hw, bi_none, bi_some]; done)
      · obtain ⟨k1, k2⟩ := j3 n u rfl
        have hnn := eq_false (show ¬ (n : Int) < 0 by omega)
        by_cases ho : ord u.r.bn u.r.br v.r.bn v.r.br < 0
        · have hn : nextB (VoteS.quick) i (some (n, u)) v = some (i, v) := by simp [nextB, hp, ho]
          have J := j.next hv hn
          have ho' := eq_true (ord_gt ho)
          simp [hv, bi_none, bi_some, k2, hnn]
          repeat' (first | intro _ | with_reducible refine And.intro ?_ ?_ | exact chkI (by kernel_rfl) | exact backI (by kernel_rfl) | (refine callA (by first | rfl | (simp; done) | (simp; rfl)) (c_cmpBal ..) ?_ <;> try simp [hv, hp, bi_none, bi_some, k2, ho', hnn]) | (refine callB (by first | rfl | (simp; done) | (simp; rfl)) (c_cmpBal ..) ?_ <;> try simp [hv, hp, bi_none, bi_some, k2, ho', hnn]) | (refine callH (by first | ((refine ⟨?_, ?_, ?_, ?_⟩ <;> repeat' (first | exact rfl | exact Or.inl rfl | exact Or.inr rfl | exact trivial | with_reducible constructor | refine ⟨?_, ?_⟩ | (simp; done))); done) | fail) (c_pickS ..) ?_ <;> try simp [hv, hp, bi_none, bi_some, k2, ho', hnn]) | (refine callHD (by first | ((refine ⟨?_, ?_, ?_, ?_⟩ <;> repeat' (first | exact rfl | exact Or.inl rfl | exact Or.inr rfl | exact trivial | with_reducible constructor | refine ⟨?_, ?_⟩ | (simp; done))); done) | fail) (c_pickS ..) rfl ?_ <;> try simp [hv, hp, bi_none, bi_some, k2, ho', hnn]) | (refine callB (by first | rfl | (simp; done) | (simp; rfl)) (c_fast ..) ?_ <;> try simp [hv, hp, bi_none, bi_some, k2, ho', hnn]) | (refine callA (by first | rfl | (simp; done) | (simp; rfl)) (c_fast ..) ?_ <;> try simp [hv, hp, bi_none, bi_some, k2, ho', hnn]) | fail)
          all_goals first | omega | (refine Exists.intro (i + 1) (And.intro (by omega) (Exists.intro (some (i, v)) (And.intro J (St.to_chk [] ?_)))); simp [hw, bi_none, bi_some]; done)
        · have hn : nextB (VoteS.quick) i (some (n, u)) v = some (n, u) := by simp [nextB, hp, ho]
          have J := j.next hv hn
          have ho' := eq_false (ord_ngt ho)
          simp [hv, bi_none, bi_some, k2, hnn]
          repeat' (first | intro _ | with_reducible refine And.intro ?_ ?_ | exact chkI (by kernel_rfl) | exact backI (by kernel_rfl) | (refine callA (by first | rfl | (simp; done) | (simp; rfl)) (c_cmpBal ..) ?_ <;> try simp [hv, hp, bi_none, bi_some, k2, ho', hnn]) | (refine callB (by first | rfl | (simp; done) | (simp; rfl)) (c_cmpBal ..) ?_ <;> try simp [hv, hp, bi_none, bi_some, k2, ho', hnn]) | (refine callH (by first | ((refine ⟨?_, ?_, ?_, ?_⟩ <;> repeat' (first | exact rfl | exact Or.inl rfl | exact Or.inr rfl | exact trivial | with_reducible constructor | refine ⟨?_, ?_⟩ | (simp; done))); done) | fail) (c_pickS ..) ?_ <;> try simp [hv, hp, bi_none, bi_some, k2, ho', hnn]) | (refine callHD (by first | ((refine ⟨?_, ?_, ?_, ?_⟩ <;> repeat' (first | exact rfl | exact Or.inl rfl | exact Or.inr rfl | exact trivial | with_reducible constructor | refine ⟨?_, ?_⟩ | (simp; done))); done) | fail) (c_pickS ..) rfl ?_ <;> try simp [hv, hp, bi_none, bi_some, k2, ho', hnn]) | (refine callB (by first | rfl | (simp; done) | (simp; rfl)) (c_fast ..) ?_ <;> try simp [hv, hp, bi_none, bi_some, k2, ho', hnn]) | (refine callA (by first | rfl | (simp; done) | (simp; rfl)) (c_fast ..) ?_ <;> try simp [hv, hp, bi_none, bi_some, k2, ho', hnn]) | fail)
          all_goals first | omega | (refine Exists.intro (i + 1) (And.intro (by omega) (Exists.intro (some (n, u)) (And.intro J (St.to_chk [] ?_)))); simp [hw, bi_none, bi_some]; done)
  · have e := j.fin hi
    rw [e]
    rcases a with _ | ⟨n, u⟩
    · simp [hi, bi_none, bi_some]
      repeat' (first | intro _ | with_reducible refine And.intro ?_ ?_ | exact chkI (by kernel_rfl) | exact backI (by kernel_rfl) | (refine callA (by first | rfl | (simp; done) | (simp; rfl)) (c_cmpBal ..) ?_ <;> try simp [bi_none, bvN, Cmd.zero]) | (refine callB (by first | rfl | (simp; done) | (simp; rfl)) (c_cmpBal ..) ?_ <;> try simp [bi_none, bvN, Cmd.zero]) | (refine callH (by first | ((refine ⟨?_, ?_, ?_, ?_⟩ <;> repeat' (first | exact rfl | exact Or.inl rfl | exact Or.inr rfl | exact trivial | with_reducible constructor | refine ⟨?_, ?_⟩ | (simp; done))); done) | fail) (c_pickS ..) ?_ <;> try simp [bi_none, bvN, Cmd.zero]) | (refine callHD (by first | ((refine ⟨?_, ?_, ?_, ?_⟩ <;> repeat' (first | exact rfl | exact Or.inl rfl | exact Or.inr rfl | exact trivial | with_reducible constructor | refine ⟨?_, ?_⟩ | (simp; done))); done) | fail) (c_pickS ..) rfl ?_ <;> try simp [bi_none, bvN, Cmd.zero]) | fail)
      all_goals first | omega | exact St.to_chk [] (by simp [bvN])
    · obtain ⟨k1, k2⟩ := j3 n u rfl
      have hnn := eq_false (show ¬ (n : Int) < 0 by omega)
      simp [hi, bi_none, bi_some, k2, hnn]
      repeat' (first | intro _ | with_reducible refine And.intro ?_ ?_ | exact chkI (by kernel_rfl) | exact backI (by kernel_rfl) | (refine callA (by first | rfl | (simp; done) | (simp; rfl)) (c_cmpBal ..) ?_ <;> try simp [bi_none, bi_some, k2, hnn, bvN]) | (refine callB (by first | rfl | (simp; done) | (simp; rfl)) (c_cmpBal ..) ?_ <;> try simp [bi_none, bi_some, k2, hnn, bvN]) | (refine callH (by first | ((refine ⟨?_, ?_, ?_, ?_⟩ <;> repeat' (first | exact rfl | exact Or.inl rfl | exact Or.inr rfl | exact trivial | with_reducible constructor | refine ⟨?_, ?_⟩ | (simp; done))); done) | fail) (c_pickS ..) ?_ <;> try simp [bi_none, bi_some, k2, hnn, bvN]) | (refine callHD (by first | ((refine ⟨?_, ?_, ?_, ?_⟩ <;> repeat' (first | exact rfl | exact Or.inl rfl | exact Or.inr rfl | exact trivial | with_reducible constructor | refine ⟨?_, ?_⟩ | (simp; done))); done) | fail) (c_pickS ..) rfl ?_ <;> try simp [bi_none, bi_some, k2, hnn, bvN]) | fail)
      all_goals first | omega | exact St.to_chk [] (by simp [bvN])
end Go.Proofs.Ytnchceblpogpmaa.AX
