/- Bytes that are handed in. -/
import Derived.Test.YtalkadbpdaoifaaOp1
namespace Go.Proofs.Ytalkadbpdaoifaa.AX
open Go Go.RowKit
theorem o_byte {P : Program} {T : TypeId} (hu : P.underlying T = some (.int .u8)) (hc : P.cellsOf T = 1) : OpensR P T 1 (fun b : UInt8 => [V.int .u8 (b.toNat : Int)]) (fun _ => True) :=
  ⟨hc, fun h => by
    obtain ⟨n, hw, h1, h2⟩ := (opensR_int hu hc).opens h
    have h3 : 0 ≤ n ∧ n < 256 := by
      have e1 : IntKind.u8.min = 0 := rfl
      have e2 : IntKind.u8.max = 255 := rfl
      simp only [Lit.wf, e1, e2, Bool.and_eq_true, decide_eq_true_eq] at hw
      omega
    have e : (((UInt8.ofNat n.toNat).toNat : Nat) : Int) = n := by
      rw [UInt8.toNat_ofNat']
      omega
    refine ⟨UInt8.ofNat n.toNat, trivial, rfl, ?_⟩
    rw [e]
    exact h2⟩
theorem byte_wf {n : Int} (h : (Lit.int .u8 n).wf = true) : ∃ b : UInt8, n = (b.toNat : Int) := by
  have e1 : IntKind.u8.min = 0 := rfl
  have e2 : IntKind.u8.max = 255 := rfl
  simp only [Lit.wf, e1, e2, Bool.and_eq_true, decide_eq_true_eq] at h
  refine ⟨UInt8.ofNat n.toNat, ?_⟩
  rw [UInt8.toNat_ofNat']
  omega
end Go.Proofs.Ytalkadbpdaoifaa.AX
