/- Nets: what is on its way. -/
import Derived.Test.YtbhchajlebhkgaaWi14
import Derived.Test.YtbhchajlebhkgaaAxAE
namespace Go.Proofs.Ytbhchajlebhkgaa.AX
open Go Go.RowKit
set_option linter.unusedSimpArgs false
set_option linter.unusedVariables false
set_option maxRecDepth 100000
set_option maxHeartbeats 4000000
structure NetS where
  sent : Int
  came : Int
  lost : Int
  l : List Msg
  room : Int
@[simp] def NetS.cs (n : NetS) : List V := [i64 n.sent, i64 n.came, i64 n.lost, .sl (n.l.map Msg.cs), i64 n.room]
def NetS.fresh (room : Int) : NetS := ⟨0, 0, 0, [], room⟩
abbrev nbox (n : NetS) : AO := .box false 74 n.cs
theorem c_clone (c : Cmd) (h : c.Small := by assumption) : Pure Try.prog 50 [.agg c.cs] (.agg c.cs) := by
  have h1 := h.rl
  have h2 := h.wl
  refine pureQ_of_aw dOk Try.func50 rfl rfl rfl rfl rfl ?_
  simp [Try.f50]
  repeat' (first | intro _ | with_reducible refine And.intro ?_ ?_ | exact chkI (by kernel_rfl) | exact backI (by kernel_rfl) | fail)
  all_goals first | omega | (refine St.to_chk [] ?_; simp; done) | (refine St.to_chk [] ?_; simp; omega)
theorem c_ownM (m : Msg) (h : m.r.c.Small := by assumption) : Pure Try.prog 40 [.agg m.cs] (.agg m.cs) := by
  refine pureQ_of_aw dOk Try.func40 rfl rfl rfl rfl rfl ?_
  simp [Try.f40]
  repeat' (first | intro _ | with_reducible refine And.intro ?_ ?_ | exact chkI (by kernel_rfl) | exact backI (by kernel_rfl) | (refine callA (by first | rfl | (simp; done) | (simp; rfl)) (c_clone ..) ?_ <;> try simp) | (refine callB (by first | rfl | (simp; done) | (simp; rfl)) (c_clone ..) ?_ <;> try simp) | fail)
  all_goals first | omega | (refine St.to_chk [] ?_; simp; done) | (refine St.to_chk [] ?_; simp; omega)
theorem c_nNew (room : Int) (h : 1 ≤ room ∧ room ≤ 256 := by omega) : Fn Try.prog 9 [i64 room] [] 0 (.ptr 0 0) [(0, nbox (NetS.fresh room))] 1 := by
  refine fn_of_aw dOk Try.func9 rfl rfl rfl rfl rfl (by simp) rfl (by simp) ?_
  simp [Try.f9, NetS.fresh]
  repeat' (first | intro _ | with_reducible refine And.intro ?_ ?_ | exact chkI (by kernel_rfl) | exact backI (by kernel_rfl) | fail)
  all_goals first | omega | (exact (St.to_tell 0 [i64 0, i64 0, i64 0, .sl [], i64 room] rfl (by simp)).trans (St.to_chk [] (by simp [NetS.fresh])))
theorem c_nNewNo (room : Int) (h : ¬ (1 ≤ room ∧ room ≤ 256) := by omega) : Pure Try.prog 9 [i64 room] .nilp := by
  refine pureQ_of_aw dOk Try.func9 rfl rfl rfl rfl rfl ?_
  simp [Try.f9]
  repeat' (first | intro _ | with_reducible refine And.intro ?_ ?_ | exact chkI (by kernel_rfl) | exact backI (by kernel_rfl) | (refine callH (by first | ((refine ⟨?_, ?_, ?_, ?_⟩ <;> repeat' (first | exact rfl | exact Or.inl rfl | exact Or.inr rfl | exact trivial | with_reducible constructor | refine ⟨?_, ?_⟩ | (simp; done))); done) | fail) (c_nNew ..) ?_ <;> try simp) | (refine callHD (by first | ((refine ⟨?_, ?_, ?_, ?_⟩ <;> repeat' (first | exact rfl | exact Or.inl rfl | exact Or.inr rfl | exact trivial | with_reducible constructor | refine ⟨?_, ?_⟩ | (simp; done))); done) | fail) (c_nNew ..) rfl ?_ <;> try simp) | fail)
  all_goals first | omega | (refine St.to_chk [] ?_; simp; done) | (refine St.to_chk [] ?_; simp; omega)
theorem c_nLenNil : Pure Try.prog 15 [.nilp] (i64 0) := by
  refine pureQ_of_aw dOk Try.func15 rfl rfl rfl rfl rfl ?_
  simp [Try.f15]
theorem c_nLen (n : NetS) : Fn Try.prog 15 [.ptr 0 0] [(0, nbox n)] 1 (i64 n.l.length) [(0, nbox n)] 1 := by
  refine fn_of_aw dOk Try.func15 rfl rfl rfl rfl rfl (by simp) rfl (by simp) ?_
  simp [Try.f15]
  repeat' (first | intro _ | with_reducible refine And.intro ?_ ?_ | exact chkI (by kernel_rfl) | exact backI (by kernel_rfl) | (refine callA (by first | rfl | (simp; done) | (simp; rfl)) (c_nLenNil ..) ?_ <;> try simp) | (refine callB (by first | rfl | (simp; done) | (simp; rfl)) (c_nLenNil ..) ?_ <;> try simp) | fail)
  all_goals first | omega | (refine St.to_chk [] ?_; simp; done) | (refine St.to_chk [] ?_; simp; omega)
theorem c_tTally (n : NetS) : Fn Try.prog 39 [.ptr 0 0] [(0, nbox n)] 1 (.agg [i64 n.sent, i64 n.came, i64 n.lost]) [(0, nbox n)] 1 := by
  refine fn_of_aw dOk Try.func39 rfl rfl rfl rfl rfl (by simp) rfl (by simp) ?_
  simp [Try.f39]
  repeat' (first | intro _ | with_reducible refine And.intro ?_ ?_ | exact chkI (by kernel_rfl) | exact backI (by kernel_rfl) | fail)
  all_goals first | omega | (refine St.to_chk [] ?_; simp; done) | (refine St.to_chk [] ?_; simp; omega)
theorem c_nTallyNil : Pure Try.prog 22 [.nilp] (.agg [i64 0, i64 0, i64 0]) := by
  refine pureQ_of_aw dOk Try.func22 rfl rfl rfl rfl rfl ?_
  simp [Try.f22]
theorem c_nTally (n : NetS) : Fn Try.prog 22 [.ptr 0 0] [(0, nbox n)] 1 (.agg [i64 n.sent, i64 n.came, i64 n.lost]) [(0, nbox n)] 1 := by
  refine fn_of_aw dOk Try.func22 rfl rfl rfl rfl rfl (by simp) rfl (by simp) ?_
  simp [Try.f22]
  repeat' (first | intro _ | with_reducible refine And.intro ?_ ?_ | exact chkI (by kernel_rfl) | exact backI (by kernel_rfl) | (refine callH (by first | ((refine ⟨?_, ?_, ?_, ?_⟩ <;> repeat' (first | exact rfl | exact Or.inl rfl | exact Or.inr rfl | exact trivial | with_reducible constructor | refine ⟨?_, ?_⟩ | (simp; done))); done) | fail) (c_tTally ..) ?_ <;> try simp) | (refine callHD (by first | ((refine ⟨?_, ?_, ?_, ?_⟩ <;> repeat' (first | exact rfl | exact Or.inl rfl | exact Or.inr rfl | exact trivial | with_reducible constructor | refine ⟨?_, ?_⟩ | (simp; done))); done) | fail) (c_tTally ..) rfl ?_ <;> try simp) | (refine callA (by first | rfl | (simp; done) | (simp; rfl)) (c_nTallyNil ..) ?_ <;> try simp) | (refine callB (by first | rfl | (simp; done) | (simp; rfl)) (c_nTallyNil ..) ?_ <;> try simp) | fail)
  all_goals first | omega | (refine St.to_chk [] ?_; simp; done) | (refine St.to_chk [] ?_; simp; omega)
theorem c_nIsNil (k : Int) : Pure Try.prog 33 [.nilp, i64 k] (i64 1) := by
  refine pureQ_of_aw dOk Try.func33 rfl rfl rfl rfl rfl ?_
  simp [Try.f33]
theorem c_nIs (n : NetS) (k : Int) : Fn Try.prog 33 [.ptr 0 0, i64 k] [(0, nbox n)] 1 (i64 (if 0 ≤ k ∧ k < n.l.length then 0 else 10)) [(0, nbox n)] 1 := by
  refine fn_of_aw dOk Try.func33 rfl rfl rfl rfl rfl (by simp) rfl (by simp) ?_
  simp [Try.f33]
  repeat' (first | intro _ | with_reducible refine And.intro ?_ ?_ | exact chkI (by kernel_rfl) | exact backI (by kernel_rfl) | (refine callA (by first | rfl | (simp; done) | (simp; rfl)) (c_nIsNil ..) ?_ <;> try simp) | (refine callB (by first | rfl | (simp; done) | (simp; rfl)) (c_nIsNil ..) ?_ <;> try simp) | fail)
  all_goals first | omega | (refine St.to_chk [] ?_; simp; done) | (refine St.to_chk [] ?_; simp; omega)
end Go.Proofs.Ytbhchajlebhkgaa.AX
