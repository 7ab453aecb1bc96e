/- Bytes that are read: what it is to read them, and the reader's first steps. -/
import Derived.Test.YtalkadbpdaoifaaWi23
namespace Go.Proofs.Ytalkadbpdaoifaa.AX
open Go Go.RowKit
set_option linter.unusedSimpArgs false
set_option linter.unusedVariables false
set_option maxRecDepth 100000
set_option maxHeartbeats 4000000
structure Rst where
  b : List UInt8
  e : Int
theorem encB_nil : encB [] = [] := rfl
@[simp] theorem encB_all (l : List UInt8) : (encB l).take l.length = encB l := List.take_of_length_le (by simp)
@[simp] theorem Rst.eta (s : Rst) : (⟨s.b, s.e⟩ : Rst) = s := rfl
def Rst.fail (s : Rst) (k : Int) : Rst := if s.e = 0 then ⟨s.b, k⟩ else s
def Rst.one (s : Rst) : Rst := if s.e = 0 then (match s.b with
  | [] => ⟨[], 3⟩
  | _ :: r => ⟨r, 0⟩) else s
def Rst.oneV (s : Rst) : UInt8 := if s.e = 0 then s.b.headD 0 else 0
def numGo : Nat → Nat → Nat → Rst → Rst × Nat
  | 0, _, _, s => (s.fail 2, 0)
  | f + 1, k, n, s =>
    if s.one.e ≠ 0 then (s.one, 0)
    else if 128 ≤ s.oneV.toNat then numGo f (k + 1) (n + (s.oneV.toNat - 128) * 128 ^ k) s.one
    else if s.oneV.toNat = 0 ∧ 0 < k then (s.one.fail 4, n)
    else if 1099511627776 < n + s.oneV.toNat * 128 ^ k then (s.one.fail 2, n + s.oneV.toNat * 128 ^ k)
    else (s.one, n + s.oneV.toNat * 128 ^ k)
def Rst.num (s : Rst) : Rst := (numGo 6 0 0 s).1
def Rst.numV (s : Rst) : Int := ((numGo 6 0 0 s).2 : Int)
abbrev rbx (s : Rst) : AO := .box false 98 [.sl (encB s.b), i64 s.e]
theorem c_fail (b : List UInt8) (e k : Int) : Fn Try.prog 58 [.ptr 0 0, i64 k] [(0, .box false 98 [.sl (encB b), i64 e])] 1 (.tup []) [(0, .box false 98 [.sl (encB (Rst.fail ⟨b, e⟩ k).b), i64 (Rst.fail ⟨b, e⟩ k).e])] 1 := by
  by_cases he : e = 0
  · refine fn_of_aw dOk Try.func58 rfl rfl rfl rfl rfl (by simp) rfl (by simp) ?_
    simp [Try.f58, he, -encB]
    repeat' (first | intro _ | with_reducible refine And.intro ?_ ?_ | exact chkI (by kernel_rfl) | exact backI (by kernel_rfl) | fail)
    all_goals (refine St.to_chk [] ?_; simp [Rst.fail, he, -encB])
  · refine fn_of_aw dOk Try.func58 rfl rfl rfl rfl rfl (by simp) rfl (by simp) ?_
    simp [Try.f58, he, -encB]
    repeat' (first | intro _ | with_reducible refine And.intro ?_ ?_ | exact chkI (by kernel_rfl) | exact backI (by kernel_rfl) | fail)
    all_goals (refine St.to_chk [] ?_; simp [Rst.fail, he, -encB])
theorem c_one (b : List UInt8) (e : Int) : Fn Try.prog 54 [.ptr 0 0] [(0, .box false 98 [.sl (encB b), i64 e])] 1 (.int .u8 ((Rst.oneV ⟨b, e⟩).toNat : Int)) [(0, .box false 98 [.sl (encB (Rst.one ⟨b, e⟩).b), i64 (Rst.one ⟨b, e⟩).e])] 1 := by
  by_cases he : e = 0
  · rcases b with _ | ⟨c, r⟩
    · refine fn_of_aw dOk Try.func54 rfl rfl rfl rfl rfl (by simp) rfl (by simp) ?_
      simp [Try.f54, he, -encB]
      repeat' (first | intro _ | with_reducible refine And.intro ?_ ?_ | exact chkI (by kernel_rfl) | exact backI (by kernel_rfl) | (refine callH (by first | ((refine ⟨?_, ?_, ?_, ?_⟩ <;> repeat' (first | exact rfl | exact Or.inl rfl | exact Or.inr rfl | exact trivial | with_reducible constructor | refine ⟨?_, ?_⟩ | (simp; done))); done) | fail) (c_fail ..) ?_ <;> try simp [he, Rst.fail, -encB]) | (refine callHD (by first | ((refine ⟨?_, ?_, ?_, ?_⟩ <;> repeat' (first | exact rfl | exact Or.inl rfl | exact Or.inr rfl | exact trivial | with_reducible constructor | refine ⟨?_, ?_⟩ | (simp; done))); done) | fail) (c_fail ..) rfl ?_ <;> try simp [he, Rst.fail, -encB]) | fail)
      all_goals (refine St.to_chk [] ?_; simp [Rst.one, Rst.oneV, he, -encB])
    · refine fn_of_aw dOk Try.func54 rfl rfl rfl rfl rfl (by simp) rfl (by simp) ?_
      simp [Try.f54, he, encB_cons, -encB]
      repeat' (first | intro _ | with_reducible refine And.intro ?_ ?_ | exact chkI (by kernel_rfl) | exact backI (by kernel_rfl) | (refine callH (by first | ((refine ⟨?_, ?_, ?_, ?_⟩ <;> repeat' (first | exact rfl | exact Or.inl rfl | exact Or.inr rfl | exact trivial | with_reducible constructor | refine ⟨?_, ?_⟩ | (simp; done))); done) | fail) (c_fail ..) ?_ <;> try simp [he, encB_cons, -encB]) | (refine callHD (by first | ((refine ⟨?_, ?_, ?_, ?_⟩ <;> repeat' (first | exact rfl | exact Or.inl rfl | exact Or.inr rfl | exact trivial | with_reducible constructor | refine ⟨?_, ?_⟩ | (simp; done))); done) | fail) (c_fail ..) rfl ?_ <;> try simp [he, encB_cons, -encB]) | fail)
      all_goals first | omega | exact encB_one (by assumption) | (refine St.to_chk [] ?_; simp [Rst.one, Rst.oneV, he, encB_cons, -encB]; done)
  · refine fn_of_aw dOk Try.func54 rfl rfl rfl rfl rfl (by simp) rfl (by simp) ?_
    simp [Try.f54, he, -encB]
    repeat' (first | intro _ | with_reducible refine And.intro ?_ ?_ | exact chkI (by kernel_rfl) | exact backI (by kernel_rfl) | (refine callH (by first | ((refine ⟨?_, ?_, ?_, ?_⟩ <;> repeat' (first | exact rfl | exact Or.inl rfl | exact Or.inr rfl | exact trivial | with_reducible constructor | refine ⟨?_, ?_⟩ | (simp; done))); done) | fail) (c_fail ..) ?_ <;> try simp [he, Rst.fail, -encB]) | (refine callHD (by first | ((refine ⟨?_, ?_, ?_, ?_⟩ <;> repeat' (first | exact rfl | exact Or.inl rfl | exact Or.inr rfl | exact trivial | with_reducible constructor | refine ⟨?_, ?_⟩ | (simp; done))); done) | fail) (c_fail ..) rfl ?_ <;> try simp [he, Rst.fail, -encB]) | fail)
    all_goals (refine St.to_chk [] ?_; simp [Rst.one, Rst.oneV, he, -encB])
end Go.Proofs.Ytalkadbpdaoifaa.AX
