/- The order of any two pairs of numbers that the program tells for ballots, times, names and instances is the reference's. -/
import Derived.Test.YtkjebgkjjkebmaaPStampOrdersx2
namespace Go.Proofs.Ytkjebgkjjkebmaa.Pure
open Go.RowKit Go.Proofs.Ytkjebgkjjkebmaa.PStampOrders Go.Proofs.YtkjebgkjjkebmaaW.PrintWords Go.Proofs.YtkjebgkjjkebmaaW.PrintLast

theorem orders_order (a b c d : Int) : stamp_order.f 1 a b c d = althingref02_Order.f a b c d := by
  unfold stamp_order.f althingref02_Order.f
  simp only [stamp_order.j0, decide_eq_true_eq]
  repeat' split
  all_goals first | rfl | omega | (exfalso; omega) | (exfalso; simp_all; done) | skip

theorem orders_awake : althinglaw02_awake.f 1 = some true := by decide +kernel

theorem orders_ref (a b c d : Int) : ∃ n, althingref02_Order.f a b c d = some n := by
  unfold althingref02_Order.f
  repeat' split
  all_goals exact ⟨_, rfl⟩

theorem StampOrders : althinglaw02_StampOrders.Pure := by
  intro a b c d _ _ _ _
  refine ⟨1, ?_⟩
  obtain ⟨n, hn⟩ := orders_ref a b c d
  simp only [althinglaw02_StampOrders.f, stamp_CompareBallots.f, stamp_CompareStamps.f, stamp_CompareTxns.f, stamp_CompareInsts.f, orders_order, hn, orders_awake, Option.bind_some, if_true]

end Go.Proofs.Ytkjebgkjjkebmaa.Pure
