/- Nets: the document's, what comes, is lost, made two. -/
import Derived.Test.YtbhchajlebhkgaaNe12
namespace Go.Proofs.Ytbhchajlebhkgaa.AX
open Go Go.RowKit
set_option linter.unusedSimpArgs false
set_option linter.unusedVariables false
set_option maxRecDepth 100000
set_option maxHeartbeats 4000000
theorem erase_same {α : Type} {l : List α} {k : Nat} {x : α} (h : l[k]? = some x) : (l.take (k + 1)).eraseIdx k = (l.take k).eraseIdx k := by
  have hk := (List.getElem?_eq_some_iff.1 h).1
  rw [List.take_add_one, h]
  rw [List.eraseIdx_append_of_length_le (by simp; omega), List.eraseIdx_of_length_le (l := l.take k) (by simp; omega)]
  have : k - (l.take k).length = 0 := by simp; omega
  rw [this]
  simp
theorem erase_next {α : Type} {l : List α} {i k : Nat} {x : α} (h : l[i]? = some x) (hne : i ≠ k) : (l.take (i + 1)).eraseIdx k = (l.take i).eraseIdx k ++ [x] := by
  have hi := (List.getElem?_eq_some_iff.1 h).1
  rw [List.take_add_one, h]
  rcases Nat.lt_or_ge k i with hk | hk
  · rw [List.eraseIdx_append_of_lt_length (by simp; omega)]
    simp
  · rw [List.eraseIdx_append_of_length_le (by simp; omega), List.eraseIdx_of_length_le (l := l.take i) (by simp; omega)]
    have : k - (l.take i).length = (k - i - 1) + 1 := by simp; omega
    rw [this]
    simp
theorem out_l (n : NetS) (k : Nat) : (n.out k).l = n.l.eraseIdx k := by
  simp only [NetS.out]
  rw [List.eraseIdx_eq_take_drop_succ]
theorem erase_le {α : Type} (l : List α) (k i : Nat) : ((l.take i).eraseIdx k).length ≤ l.length := by
  have := List.length_eraseIdx_le (l.take i) k
  simp at this
  omega
abbrev rbox (n : NetS) : AO := .box false 59 n.rcs
theorem c_rWithout (n : NetS) (k : Int) (hn : n.Ok := by assumption) (hk : 0 ≤ k ∧ k < n.l.length := by omega) : Pure Try.prog 49 [.agg n.rcs, i64 k] (.agg (n.out k.toNat).rcs) := by
  obtain ⟨q, rfl⟩ : ∃ q : Nat, k = q := ⟨k.toNat, by omega⟩
  have hl := hn.len
  have hq : q < n.l.length := by omega
  refine pureQ_of_aw dOk Try.func49 rfl rfl rfl rfl rfl ?_
  simp [Try.f49]
  refine aw_loopKM (α := {i : Nat // i ≤ n.l.length}) [1, 2, 4, 25, 26, 27] (fun i => [(6, i64 i.1), (5, .rf 2)]) (fun i => [(2, .row false 43 30 (((n.l.take i.1).eraseIdx q).map Msg.cs)), (1, .box false 59 [i64 0, .nl, i64 0, i64 0, i64 0]), (0, rbox n)]) 3 (fun i => n.l.length - i.1) ⟨0, by simp⟩ ((St.to_own 5 43 30 rfl (by simp)).trans (St.to_chk [] (by simp))) ?_
  rintro ⟨i, j1⟩
  dsimp only
  by_cases hi : i < n.l.length
  · obtain ⟨m, hm⟩ := getL_some hi
    have hw := wrI hi (by omega)
    have hle := erase_le n.l q i
    by_cases he : i = q
    · have hs := erase_same (l := n.l) (k := q) (by rw [← he]; exact hm)
      simp [hm, he]
      repeat' (first | intro _ | with_reducible refine And.intro ?_ ?_ | exact chkI (by kernel_rfl) | exact backI (by kernel_rfl) | fail)
      all_goals first | omega | (refine Exists.intro (i + 1) (And.intro (by omega) (And.intro (by omega) (St.to_chk [] ?_))); subst he; rw [hs]; simp [hw]; done)
    · have hs := erase_next hm he
      have hne := eq_false (show ¬ (i : Int) = (q : Int) by omega)
      simp [hm, hne]
      repeat' (first | intro _ | with_reducible refine And.intro ?_ ?_ | exact chkI (by kernel_rfl) | exact backI (by kernel_rfl) | fail)
      all_goals first | omega | exact msgs_len (by assumption) | (refine Exists.intro (i + 1) (And.intro (by omega) (And.intro (by omega) (St.to_chk [(2, 4)] ?_))); rw [hs]; simp [hw]; done)
  · rw [List.take_of_length_le (by omega), ← out_l n q]
    simp [hi]
    repeat' (first | intro _ | with_reducible refine And.intro ?_ ?_ | exact chkI (by kernel_rfl) | exact backI (by kernel_rfl) | fail)
    all_goals first | omega | (simp [NetS.out]; done)
theorem c_rTake (n : NetS) (k : Int) (m : Msg) (hn : n.Ok := by assumption) (hk : n.at k = some m := by assumption) : Pure Try.prog 36 [.agg n.rcs, i64 k] (.tup [.agg (n.took k.toNat).rcs, .agg m.cs, i64 0]) := by
  obtain ⟨k1, k2, k3⟩ := NetS.at_some hk
  have hc := hn.came
  have hw : IntKind.i64.wrap ((n.out k.toNat).came + 1) = n.came + 1 := wr64 (by simp only [NetS.out]; omega) (by simp only [NetS.out]; omega)
  refine pureQ_of_aw dOk Try.func36 rfl rfl rfl rfl rfl ?_
  simp [Try.f36]
  repeat' (first | intro _ | with_reducible refine And.intro ?_ ?_ | exact chkI (by kernel_rfl) | exact backI (by kernel_rfl) | (refine callA (by first | rfl | (simp; done) | (simp; rfl)) (c_rLookNo ..) ?_ <;> try simp [hw, NetS.took]) | (refine callB (by first | rfl | (simp; done) | (simp; rfl)) (c_rLookNo ..) ?_ <;> try simp [hw, NetS.took]) | (refine callA (by first | rfl | (simp; done) | (simp; rfl)) (c_rLook ..) ?_ <;> try simp [hw, NetS.took]) | (refine callB (by first | rfl | (simp; done) | (simp; rfl)) (c_rLook ..) ?_ <;> try simp [hw, NetS.took]) | (refine callA (by first | rfl | (simp; done) | (simp; rfl)) (c_rWithout ..) ?_ <;> try simp [hw, NetS.took]) | (refine callB (by first | rfl | (simp; done) | (simp; rfl)) (c_rWithout ..) ?_ <;> try simp [hw, NetS.took]) | fail)
  all_goals first | omega
theorem c_rTakeNo (n : NetS) (k : Int) (hk : n.at k = none := by assumption) : Pure Try.prog 36 [.agg n.rcs, i64 k] (.tup [.agg n.rcs, .agg Msg.zero.cs, i64 10]) := by
  refine pureQ_of_aw dOk Try.func36 rfl rfl rfl rfl rfl ?_
  simp [Try.f36]
  repeat' (first | intro _ | with_reducible refine And.intro ?_ ?_ | exact chkI (by kernel_rfl) | exact backI (by kernel_rfl) | (refine callA (by first | rfl | (simp; done) | (simp; rfl)) (c_rLookNo ..) ?_ <;> try simp) | (refine callB (by first | rfl | (simp; done) | (simp; rfl)) (c_rLookNo ..) ?_ <;> try simp) | (refine callA (by first | rfl | (simp; done) | (simp; rfl)) (c_rLook ..) ?_ <;> try simp) | (refine callB (by first | rfl | (simp; done) | (simp; rfl)) (c_rLook ..) ?_ <;> try simp) | (refine callA (by first | rfl | (simp; done) | (simp; rfl)) (c_rWithout ..) ?_ <;> try simp) | (refine callB (by first | rfl | (simp; done) | (simp; rfl)) (c_rWithout ..) ?_ <;> try simp) | (refine callA (by first | rfl | (simp; done) | (simp; rfl)) (c_rTake ..) ?_ <;> try simp) | (refine callB (by first | rfl | (simp; done) | (simp; rfl)) (c_rTake ..) ?_ <;> try simp) | fail)
  all_goals first | omega
theorem c_rLose (n : NetS) (k : Int) (m : Msg) (hn : n.Ok := by assumption) (hk : n.at k = some m := by assumption) : Pure Try.prog 37 [.agg n.rcs, i64 k] (.tup [.agg (n.lose k.toNat).rcs, i64 0]) := by
  obtain ⟨k1, k2, k3⟩ := NetS.at_some hk
  have hc := hn.lost
  have hw : IntKind.i64.wrap ((n.out k.toNat).lost + 1) = n.lost + 1 := wr64 (by simp only [NetS.out]; omega) (by simp only [NetS.out]; omega)
  refine pureQ_of_aw dOk Try.func37 rfl rfl rfl rfl rfl ?_
  simp [Try.f37]
  repeat' (first | intro _ | with_reducible refine And.intro ?_ ?_ | exact chkI (by kernel_rfl) | exact backI (by kernel_rfl) | (refine callA (by first | rfl | (simp; done) | (simp; rfl)) (c_rLookNo ..) ?_ <;> try simp [hw, NetS.lose]) | (refine callB (by first | rfl | (simp; done) | (simp; rfl)) (c_rLookNo ..) ?_ <;> try simp [hw, NetS.lose]) | (refine callA (by first | rfl | (simp; done) | (simp; rfl)) (c_rLook ..) ?_ <;> try simp [hw, NetS.lose]) | (refine callB (by first | rfl | (simp; done) | (simp; rfl)) (c_rLook ..) ?_ <;> try simp [hw, NetS.lose]) | (refine callA (by first | rfl | (simp; done) | (simp; rfl)) (c_rWithout ..) ?_ <;> try simp [hw, NetS.lose]) | (refine callB (by first | rfl | (simp; done) | (simp; rfl)) (c_rWithout ..) ?_ <;> try simp [hw, NetS.lose]) | fail)
  all_goals first | omega
theorem c_rLoseNo (n : NetS) (k : Int) (hk : n.at k = none := by assumption) : Pure Try.prog 37 [.agg n.rcs, i64 k] (.tup [.agg n.rcs, i64 10]) := by
  refine pureQ_of_aw dOk Try.func37 rfl rfl rfl rfl rfl ?_
  simp [Try.f37]
  repeat' (first | intro _ | with_reducible refine And.intro ?_ ?_ | exact chkI (by kernel_rfl) | exact backI (by kernel_rfl) | (refine callA (by first | rfl | (simp; done) | (simp; rfl)) (c_rLookNo ..) ?_ <;> try simp) | (refine callB (by first | rfl | (simp; done) | (simp; rfl)) (c_rLookNo ..) ?_ <;> try simp) | (refine callA (by first | rfl | (simp; done) | (simp; rfl)) (c_rLook ..) ?_ <;> try simp) | (refine callB (by first | rfl | (simp; done) | (simp; rfl)) (c_rLook ..) ?_ <;> try simp) | (refine callA (by first | rfl | (simp; done) | (simp; rfl)) (c_rWithout ..) ?_ <;> try simp) | (refine callB (by first | rfl | (simp; done) | (simp; rfl)) (c_rWithout ..) ?_ <;> try simp) | (refine callA (by first | rfl | (simp; done) | (simp; rfl)) (c_rLose ..) ?_ <;> try simp) | (refine callB (by first | rfl | (simp; done) | (simp; rfl)) (c_rLose ..) ?_ <;> try simp) | fail)
  all_goals first | omega
theorem c_rTwice (n : NetS) (k : Int) (m : Msg) (hn : n.Ok := by assumption) (hm : m.r.c.Small := by assumption) (hk : n.at k = some m := by assumption) (hr : m.right = true := by assumption) (hl : (n.room ≤ (n.l.length : Int)) = False := by assumption) : Pure Try.prog 38 [.agg n.rcs, i64 k] (.tup [.agg (n.put m).rcs, i64 0]) := by
  refine pureQ_of_aw dOk Try.func38 rfl rfl rfl rfl rfl ?_
  simp [Try.f38]
  repeat' (first | intro _ | with_reducible refine And.intro ?_ ?_ | exact chkI (by kernel_rfl) | exact backI (by kernel_rfl) | (refine callA (by first | rfl | (simp; done) | (simp; rfl)) (c_rSendFull ..) ?_ <;> try simp [hl]) | (refine callB (by first | rfl | (simp; done) | (simp; rfl)) (c_rSendFull ..) ?_ <;> try simp [hl]) | (refine callA (by first | rfl | (simp; done) | (simp; rfl)) (c_rSend ..) ?_ <;> try simp [hl]) | (refine callB (by first | rfl | (simp; done) | (simp; rfl)) (c_rSend ..) ?_ <;> try simp [hl]) | (refine callA (by first | rfl | (simp; done) | (simp; rfl)) (c_rSendNo ..) ?_ <;> try simp [hl]) | (refine callB (by first | rfl | (simp; done) | (simp; rfl)) (c_rSendNo ..) ?_ <;> try simp [hl]) | (refine callA (by first | rfl | (simp; done) | (simp; rfl)) (c_rLookNo ..) ?_ <;> try simp [hl]) | (refine callB (by first | rfl | (simp; done) | (simp; rfl)) (c_rLookNo ..) ?_ <;> try simp [hl]) | (refine callA (by first | rfl | (simp; done) | (simp; rfl)) (c_rLook ..) ?_ <;> try simp [hl]) | (refine callB (by first | rfl | (simp; done) | (simp; rfl)) (c_rLook ..) ?_ <;> try simp [hl]) | fail)
  all_goals first | omega
theorem c_rTwiceFull (n : NetS) (k : Int) (m : Msg) (hk : n.at k = some m := by assumption) (hl : (n.room ≤ (n.l.length : Int)) = True := by assumption) : Pure Try.prog 38 [.agg n.rcs, i64 k] (.tup [.agg n.rcs, i64 7]) := by
  refine pureQ_of_aw dOk Try.func38 rfl rfl rfl rfl rfl ?_
  simp [Try.f38]
  repeat' (first | intro _ | with_reducible refine And.intro ?_ ?_ | exact chkI (by kernel_rfl) | exact backI (by kernel_rfl) | (refine callA (by first | rfl | (simp; done) | (simp; rfl)) (c_rSendFull ..) ?_ <;> try simp [hl]) | (refine callB (by first | rfl | (simp; done) | (simp; rfl)) (c_rSendFull ..) ?_ <;> try simp [hl]) | (refine callA (by first | rfl | (simp; done) | (simp; rfl)) (c_rSend ..) ?_ <;> try simp [hl]) | (refine callB (by first | rfl | (simp; done) | (simp; rfl)) (c_rSend ..) ?_ <;> try simp [hl]) | (refine callA (by first | rfl | (simp; done) | (simp; rfl)) (c_rSendNo ..) ?_ <;> try simp [hl]) | (refine callB (by first | rfl | (simp; done) | (simp; rfl)) (c_rSendNo ..) ?_ <;> try simp [hl]) | (refine callA (by first | rfl | (simp; done) | (simp; rfl)) (c_rLookNo ..) ?_ <;> try simp [hl]) | (refine callB (by first | rfl | (simp; done) | (simp; rfl)) (c_rLookNo ..) ?_ <;> try simp [hl]) | (refine callA (by first | rfl | (simp; done) | (simp; rfl)) (c_rLook ..) ?_ <;> try simp [hl]) | (refine callB (by first | rfl | (simp; done) | (simp; rfl)) (c_rLook ..) ?_ <;> try simp [hl]) | (refine callA (by first | rfl | (simp; done) | (simp; rfl)) (c_rTwice ..) ?_ <;> try simp [hl]) | (refine callB (by first | rfl | (simp; done) | (simp; rfl)) (c_rTwice ..) ?_ <;> try simp [hl]) | fail)
  all_goals first | omega
theorem c_rTwiceNo (n : NetS) (k : Int) (hk : n.at k = none := by assumption) : Pure Try.prog 38 [.agg n.rcs, i64 k] (.tup [.agg n.rcs, i64 10]) := by
  refine pureQ_of_aw dOk Try.func38 rfl rfl rfl rfl rfl ?_
  simp [Try.f38]
  repeat' (first | intro _ | with_reducible refine And.intro ?_ ?_ | exact chkI (by kernel_rfl) | exact backI (by kernel_rfl) | (refine callA (by first | rfl | (simp; done) | (simp; rfl)) (c_rSendFull ..) ?_ <;> try simp) | (refine callB (by first | rfl | (simp; done) | (simp; rfl)) (c_rSendFull ..) ?_ <;> try simp) | (refine callA (by first | rfl | (simp; done) | (simp; rfl)) (c_rSend ..) ?_ <;> try simp) | (refine callB (by first | rfl | (simp; done) | (simp; rfl)) (c_rSend ..) ?_ <;> try simp) | (refine callA (by first | rfl | (simp; done) | (simp; rfl)) (c_rSendNo ..) ?_ <;> try simp) | (refine callB (by first | rfl | (simp; done) | (simp; rfl)) (c_rSendNo ..) ?_ <;> try simp) | (refine callA (by first | rfl | (simp; done) | (simp; rfl)) (c_rLookNo ..) ?_ <;> try simp) | (refine callB (by first | rfl | (simp; done) | (simp; rfl)) (c_rLookNo ..) ?_ <;> try simp) | (refine callA (by first | rfl | (simp; done) | (simp; rfl)) (c_rLook ..) ?_ <;> try simp) | (refine callB (by first | rfl | (simp; done) | (simp; rfl)) (c_rLook ..) ?_ <;> try simp) | (refine callA (by first | rfl | (simp; done) | (simp; rfl)) (c_rTwiceFull ..) ?_ <;> try simp) | (refine callB (by first | rfl | (simp; done) | (simp; rfl)) (c_rTwiceFull ..) ?_ <;> try simp) | (refine callA (by first | rfl | (simp; done) | (simp; rfl)) (c_rTwice ..) ?_ <;> try simp) | (refine callB (by first | rfl | (simp; done) | (simp; rfl)) (c_rTwice ..) ?_ <;> try simp) | fail)
  all_goals first | omega
end Go.Proofs.Ytbhchajlebhkgaa.AX
