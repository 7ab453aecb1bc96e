import Derived.Test.YtkjebgkjjkebmaaRows
import Derived.Test.YtkjebgkjjkebmaaPureStampLine
import Derived.WalkKit
import Derived.ProofKit
import Derived.OpenShut
import Derived.ShutString
import Derived.ChangeOld
import Derived.Below
import Derived.SizedLaws
import Derived.Lib.SmallJoins
import Derived.Carry
namespace Go.Proofs.Ytkjebgkjjkebmaa.stampLine
open Go.ChangeShapes Go.WideShapes Go.ChangeAt Go.RowKit Go.Joins
open Go.ChangeMaps (open_string shut_string)
set_option linter.unusedVariables false
theorem own : ownKnob Try.prog.godebug = none := by kernel_rfl
theorem laidOut : laidOutB Try.prog = true := by kernel_rfl
theorem cells28 : Try.prog.cellsOf 28 = 2 := by kernel_rfl
/-- The arguments read behind the call as they did before: nothing below the heap's old end has turned. -/
theorem carried {H : Type} {enc : TypeId × Value → H} {W W' : World} (hb : Below W.heap.size W W') : ∀ (ts : List TypeId) (vs : List Value) (ds : List (DataW H)) (ps : List MemPlace),
    (∀ t ∈ ts, Try.prog.readableRec t = true ∧ t < Try.prog.types.size) → DataW.TrodAll enc Try.prog W 0 (fun _ => true) true ts vs ds ps → (∀ x ∈ ps, x.block < W.heap.size) →
    DataW.TrodAll enc Try.prog W' 0 (fun b => decide (b < W.heap.size)) true ts vs ds ps
  | [], vs, ds, ps, _, h, _ => by
    cases vs with
    | nil =>
      obtain ⟨_, rfl, rfl⟩ := trodAll_nil h
      exact trodAll_mk0
    | cons v vs => exact absurd (trodAll_nil h).1 (by simp)
  | t :: ts, vs, ds, ps, ht, h, hlt => by
    obtain ⟨v, vs', d, ds', p, q, rfl, rfl, rfl, h0, r0⟩ := trodAll_cons h
    exact ⟨p, q, Below.trod laidOut (ht t (by simp)).1 (ht t (by simp)).2 h0 hb (fun x hx => hlt x (by simp [hx])),
      carried hb ts vs' ds' q (fun u hu => ht u (by simp [hu])) r0 (fun x hx => hlt x (by simp [hx])), rfl⟩
set_option maxRecDepth 100000 in
theorem lifted (os : Os) (started : os.Started) (H : Type) (enc : TypeId × Value → H) :
    ReturnsInHanded {} Try.checked os 4 .any (Rows.stampLineSpec.pre6 enc Try.prog Try.f4 Rows.stampLineRow.domain false) (Rows.stampLineSpec.post enc Try.prog Try.f4 false true false false) := by
  refine returnsInHanded_of_change_sized (C := Try.checked) own started (by kernel_rfl) Try.func4
    (ChangeSpec.witness6 (enc := enc) (C := Try.checked) false ⟨#[], #[.agg #[.int .i64 0, .int .i64 0], .agg #[.int .i64 0, .int .i64 0], .agg #[.int .i64 0, .int .i64 0]], []⟩ 8 (by kernel_rfl) (by kernel_rfl) (by kernel_rfl) (by kernel_rfl)) ?_
  intro W base args ds gs before hval0 hW hcnd hsz0 _
  have hval : ∀ (j : Nat) t v, Try.f4.params[j]? = some t → args[j]? = some v → Value.okWide Try.prog W .any base t v := hval0
  have hW' := hW
  obtain ⟨p, q, hA0, hV, rfl, hfz, hnd⟩ := hW
  have hA : DataW.TrodAll enc Try.prog W 0 (fun _ => true) true Try.f4.params.toList args.toList ds p := hA0
  rw [Try.params4] at hA hval
  have hB := hA
  obtain ⟨v0, vs0, d0, ds0, p0, q0, hargs, rfl, rfl, h0, r0⟩ := trodAll_cons hA
  obtain ⟨v1, vs1, d1, ds1, p1, q1, rfl, rfl, rfl, h1, r1⟩ := trodAll_cons r0
  obtain ⟨v2, vs2, d2, ds2, p2, q2, rfl, rfl, rfl, h2, r2⟩ := trodAll_cons r1
  obtain ⟨rfl, rfl, rfl⟩ := trodAll_nil r2
  obtain rfl : args = #[v0, v1, v2] := by cases args; simp_all
  obtain ⟨rfl, rfl⟩ := trodVars_none hV
  have hlt : ∀ x ∈ p0 ++ (p1 ++ (p2 ++ ([]))), x.block < W.heap.size := fun x hx => hW'.lt x (by simpa using hx)
  obtain ⟨c0_0, c0_1, y0_0, y0_1, m0, rfl, rfl, rfl, hy0_0, hy0_1⟩ := open_agg2 Try.underlying28 (by kernel_rfl) cells28 (hval 0 28 v0 rfl rfl) h0
  obtain ⟨a0_0, e0_0, rfl, w0_0⟩ := DataW.trod_int Try.underlying3 hy0_0
  simp at e0_0
  subst e0_0
  obtain ⟨a0_1, e0_1, rfl, w0_1⟩ := DataW.trod_int Try.underlying3 hy0_1
  simp at e0_1
  subst e0_1
  obtain ⟨c1_0, c1_1, y1_0, y1_1, m1, rfl, rfl, rfl, hy1_0, hy1_1⟩ := open_agg2 Try.underlying28 (by kernel_rfl) cells28 (hval 1 28 v1 rfl rfl) h1
  obtain ⟨a1_0, e1_0, rfl, w1_0⟩ := DataW.trod_int Try.underlying3 hy1_0
  simp at e1_0
  subst e1_0
  obtain ⟨a1_1, e1_1, rfl, w1_1⟩ := DataW.trod_int Try.underlying3 hy1_1
  simp at e1_1
  subst e1_1
  obtain ⟨c2_0, c2_1, y2_0, y2_1, m2, rfl, rfl, rfl, hy2_0, hy2_1⟩ := open_agg2 Try.underlying28 (by kernel_rfl) cells28 (hval 2 28 v2 rfl rfl) h2
  obtain ⟨a2_0, e2_0, rfl, w2_0⟩ := DataW.trod_int Try.underlying3 hy2_0
  simp at e2_0
  subst e2_0
  obtain ⟨a2_1, e2_1, rfl, w2_1⟩ := DataW.trod_int Try.underlying3 hy2_1
  simp at e2_1
  subst e2_1
  refine (PStampLine.walk a0_0 a0_1 a1_0 a1_1 a2_0 a2_1 W w0_0 w0_1 w1_0 w1_1 w2_0 w2_1).mono fun e W' ⟨he, bel⟩ => ?_
  subst he
  exact ⟨_, rfl, _, _, _, [], _, [], hW', trodAll_mk1 (shut_bool Try.underlying4 _), carried bel _ _ _ _ (by intro t ht; simp at ht; rcases ht with rfl <;> exact ⟨by kernel_rfl, of_decide_eq_true (by kernel_rfl)⟩) hB hlt, rfl, bel.frame _, fun h => by cases h⟩
theorem over : Rows.stampLineRow.holds Try.pinned (OpenSpec.ofChange Rows.stampLineSpec) :=
  OpenClaim.holds_of_wide 4 Try.f4 rfl rfl rfl rfl rfl rfl rfl ⟨rfl, rfl, rfl, rfl, rfl⟩ rfl rfl rfl rfl rfl (by kernel_rfl) Try.func4 (by kernel_rfl)
    (of_decide_eq_true (by kernel_rfl)) (by unfold Func.isWrapper; first | (rw [if_pos (by decide +kernel)]; kernel_rfl) | (rw [if_neg (by decide +kernel)]; exact ⟨rfl, rfl⟩))
    (fun os started H enc _ => lifted os started H enc)
theorem proved : Rows.StampLineSaid := over
#print axioms proved
end Go.Proofs.Ytkjebgkjjkebmaa.stampLine
namespace Go.Proofs.Ytkjebgkjjkebmaa
/-- The row, under a short name, for the claim. -/
theorem stampLine_holds : Rows.StampLineSaid := stampLine.proved
end Go.Proofs.Ytkjebgkjjkebmaa
