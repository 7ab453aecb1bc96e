/- Nets: the document's. -/
import Derived.Test.YtbhchajlebhkgaaNe4
namespace Go.Proofs.Ytbhchajlebhkgaa.AX
open Go Go.RowKit
set_option linter.unusedSimpArgs false
set_option linter.unusedVariables false
set_option maxRecDepth 100000
set_option maxHeartbeats 4000000
@[simp] def NetS.rcs (n : NetS) : List V := [i64 n.room, .sl (n.l.map Msg.cs), i64 n.sent, i64 n.came, i64 n.lost]
theorem c_rNew (room : Int) : Pure Try.prog 19 [i64 room] (.tup [.agg (NetS.fresh room).rcs, .bool (decide (1 ≤ room ∧ room ≤ 256))]) := by
  refine pureQ_of_aw dOk Try.func19 rfl rfl rfl rfl rfl ?_
  simp [Try.f19, NetS.fresh]
  repeat' (first | intro _ | with_reducible refine And.intro ?_ ?_ | exact chkI (by kernel_rfl) | exact backI (by kernel_rfl) | fail)
  all_goals first | omega | (simp; omega)
theorem c_rSendNo (n : NetS) (m : Msg) (hm : m.r.c.Small := by assumption) (hr : m.right = false := by assumption) : Pure Try.prog 34 [.agg n.rcs, .agg m.cs] (.tup [.agg n.rcs, i64 1]) := by
  refine pureQ_of_aw dOk Try.func34 rfl rfl rfl rfl rfl ?_
  simp [Try.f34]
  repeat' (first | intro _ | with_reducible refine And.intro ?_ ?_ | exact chkI (by kernel_rfl) | exact backI (by kernel_rfl) | (refine callA (by first | rfl | (simp; done) | (simp; rfl)) (c_rightMsg' ..) ?_ <;> try simp [hr]) | (refine callB (by first | rfl | (simp; done) | (simp; rfl)) (c_rightMsg' ..) ?_ <;> try simp [hr]) | fail)
  all_goals first | omega
theorem c_rSend (n : NetS) (m : Msg) (hn : n.Ok := by assumption) (hm : m.r.c.Small := by assumption) (hr : m.right = true := by assumption) (hl : (n.room ≤ (n.l.length : Int)) = False := by assumption) : Pure Try.prog 34 [.agg n.rcs, .agg m.cs] (.tup [.agg (n.put m).rcs, i64 0]) := by
  obtain ⟨h1, h2, h3, h4, h5⟩ := hn
  have hw : IntKind.i64.wrap (n.sent + 1) = n.sent + 1 := wr64 (by omega) (by omega)
  refine pureQ_of_aw dOk Try.func34 rfl rfl rfl rfl rfl ?_
  simp [Try.f34]
  repeat' (first | intro _ | with_reducible refine And.intro ?_ ?_ | exact chkI (by kernel_rfl) | exact backI (by kernel_rfl) | (refine callA (by first | rfl | (simp; done) | (simp; rfl)) (c_rightMsg' ..) ?_ <;> try simp [hr, hl, hw, NetS.put]) | (refine callB (by first | rfl | (simp; done) | (simp; rfl)) (c_rightMsg' ..) ?_ <;> try simp [hr, hl, hw, NetS.put]) | (refine callA (by first | rfl | (simp; done) | (simp; rfl)) (c_rSendNo ..) ?_ <;> try simp [hr, hl, hw, NetS.put]) | (refine callB (by first | rfl | (simp; done) | (simp; rfl)) (c_rSendNo ..) ?_ <;> try simp [hr, hl, hw, NetS.put]) | fail)
  all_goals first | omega | exact msgs_len (by assumption)
theorem c_rSendFull (n : NetS) (m : Msg) (hn : n.Ok := by assumption) (hm : m.r.c.Small := by assumption) (hr : m.right = true := by assumption) (hl : (n.room ≤ (n.l.length : Int)) = True := by assumption) : Pure Try.prog 34 [.agg n.rcs, .agg m.cs] (.tup [.agg n.drop.rcs, i64 7]) := by
  obtain ⟨h1, h2, h3, h4, h5⟩ := hn
  have hw : IntKind.i64.wrap (n.sent + 1) = n.sent + 1 := wr64 (by omega) (by omega)
  have hw2 : IntKind.i64.wrap (n.lost + 1) = n.lost + 1 := wr64 (by omega) (by omega)
  refine pureQ_of_aw dOk Try.func34 rfl rfl rfl rfl rfl ?_
  simp [Try.f34]
  repeat' (first | intro _ | with_reducible refine And.intro ?_ ?_ | exact chkI (by kernel_rfl) | exact backI (by kernel_rfl) | (refine callA (by first | rfl | (simp; done) | (simp; rfl)) (c_rightMsg' ..) ?_ <;> try simp [hr, hl, hw, hw2, NetS.drop]) | (refine callB (by first | rfl | (simp; done) | (simp; rfl)) (c_rightMsg' ..) ?_ <;> try simp [hr, hl, hw, hw2, NetS.drop]) | (refine callA (by first | rfl | (simp; done) | (simp; rfl)) (c_rSend ..) ?_ <;> try simp [hr, hl, hw, hw2, NetS.drop]) | (refine callB (by first | rfl | (simp; done) | (simp; rfl)) (c_rSend ..) ?_ <;> try simp [hr, hl, hw, hw2, NetS.drop]) | (refine callA (by first | rfl | (simp; done) | (simp; rfl)) (c_rSendNo ..) ?_ <;> try simp [hr, hl, hw, hw2, NetS.drop]) | (refine callB (by first | rfl | (simp; done) | (simp; rfl)) (c_rSendNo ..) ?_ <;> try simp [hr, hl, hw, hw2, NetS.drop]) | fail)
  all_goals first | omega
theorem c_rLook (n : NetS) (k : Int) (m : Msg) (hk : n.at k = some m := by assumption) : Pure Try.prog 35 [.agg n.rcs, i64 k] (.tup [.agg m.cs, i64 0]) := by
  obtain ⟨k1, k2, k3⟩ := NetS.at_some hk
  refine pureQ_of_aw dOk Try.func35 rfl rfl rfl rfl rfl ?_
  simp [Try.f35]
  repeat' (first | intro _ | with_reducible refine And.intro ?_ ?_ | exact chkI (by kernel_rfl) | exact backI (by kernel_rfl) | fail)
  all_goals try omega
  simp [k3, -getElem?_pos]
  repeat' (first | intro _ | with_reducible refine And.intro ?_ ?_ | exact chkI (by kernel_rfl) | exact backI (by kernel_rfl) | fail)
  all_goals first | omega
theorem c_rLookNo (n : NetS) (k : Int) (hk : n.at k = none := by assumption) : Pure Try.prog 35 [.agg n.rcs, i64 k] (.tup [.agg Msg.zero.cs, i64 10]) := by
  have k1 := NetS.at_none hk
  refine pureQ_of_aw dOk Try.func35 rfl rfl rfl rfl rfl ?_
  simp [Try.f35, Msg.zero, Cmd.zero]
  repeat' (first | intro _ | with_reducible refine And.intro ?_ ?_ | exact chkI (by kernel_rfl) | exact backI (by kernel_rfl) | (refine callA (by first | rfl | (simp; done) | (simp; rfl)) (c_rLook ..) ?_ <;> try simp) | (refine callB (by first | rfl | (simp; done) | (simp; rfl)) (c_rLook ..) ?_ <;> try simp) | fail)
  all_goals first | omega
end Go.Proofs.Ytbhchajlebhkgaa.AX
