/- Few, texts, truths and tags that are read. -/
import Derived.Test.YtalkadbpdaoifaaWd2
namespace Go.Proofs.Ytalkadbpdaoifaa.AX
open Go Go.RowKit
set_option linter.unusedSimpArgs false
set_option linter.unusedVariables false
set_option maxRecDepth 100000
set_option maxHeartbeats 4000000
def Rst.few (s : Rst) : Rst := if 8 < s.numV then s.num.fail 2 else s.num
def Rst.fewV (s : Rst) : Int := if s.few.e = 0 then s.numV else 0
def Rst.skip : Nat → Rst → Rst
  | 0, s => s
  | n + 1, s => Rst.skip n s.one
def Rst.bytes : Nat → Rst → List UInt8
  | 0, _ => []
  | n + 1, s => s.oneV :: Rst.bytes n s.one
def Rst.text (s : Rst) : Rst := Rst.skip s.fewV.toNat s.few
def Rst.textV (s : Rst) : ByteArray := ⟨(Rst.bytes s.fewV.toNat s.few).toArray⟩
def Rst.truth (s : Rst) : Rst := if 1 < s.oneV.toNat then s.one.fail 4 else s.one
def Rst.truthV (s : Rst) : Bool := decide (s.oneV.toNat = 1)
def Rst.tag (s : Rst) (c : Nat) : Rst := if s.oneV.toNat = c then s.one else s.one.fail 4
theorem skip_succ (n : Nat) (s : Rst) : Rst.skip (n + 1) s = (Rst.skip n s).one := by
  induction n generalizing s with
  | zero => rfl
  | succ n ih => rw [Rst.skip, ih]; rfl
theorem bytes_succ (n : Nat) (s : Rst) : Rst.bytes (n + 1) s = Rst.bytes n s ++ [(Rst.skip n s).oneV] := by
  induction n generalizing s with
  | zero => rfl
  | succ n ih => rw [Rst.bytes, ih]; rfl
theorem numV_nn (s : Rst) : 0 ≤ s.numV := by unfold Rst.numV; omega
theorem fail_e (s : Rst) {k : Int} (hk : k ≠ 0) : (s.fail k).e ≠ 0 := by unfold Rst.fail; split <;> simp [*]
theorem fewV_le (s : Rst) : 0 ≤ s.fewV ∧ s.fewV ≤ 8 := by
  unfold Rst.fewV
  have := numV_nn s
  split
  · rename_i h
    refine ⟨this, ?_⟩
    refine Int.not_lt.1 fun hl => ?_
    unfold Rst.few at h
    rw [if_pos hl] at h
    exact fail_e _ (by decide) h
  · omega
theorem toBytes_encB : ∀ l : List UInt8, toBytes (encB l) = some l
  | [] => rfl
  | b :: r => by
    have := toBytes_encB r
    simp only [encB, List.map_cons] at this ⊢
    simp [toBytes, this]
theorem c_few8 (b : List UInt8) (e : Int) : Fn Try.prog 86 [.ptr 0 0] [(0, .box false 98 [.sl (encB b), i64 e])] 1 (i64 (Rst.fewV ⟨b, e⟩)) [(0, .box false 98 [.sl (encB (Rst.few ⟨b, e⟩).b), i64 (Rst.few ⟨b, e⟩).e])] 1 := by
  by_cases h : 8 < Rst.numV ⟨b, e⟩
  · have h1 : Rst.few ⟨b, e⟩ = (Rst.num ⟨b, e⟩).fail 2 := if_pos h
    refine fn_of_aw dOk Try.func86 rfl rfl rfl rfl rfl (by simp) rfl (by simp) ?_
    simp [Try.f86, h, -encB]
    repeat' (first | intro _ | with_reducible refine And.intro ?_ ?_ | exact chkI (by kernel_rfl) | exact backI (by kernel_rfl) | (refine callH (by first | ((refine ⟨?_, ?_, ?_, ?_⟩ <;> repeat' (first | exact rfl | exact Or.inl rfl | exact Or.inr rfl | exact trivial | with_reducible constructor | refine ⟨?_, ?_⟩ | (simp; done))); done) | fail) (c_fail ..) ?_ <;> try simp [h, -encB]) | (refine callHD (by first | ((refine ⟨?_, ?_, ?_, ?_⟩ <;> repeat' (first | exact rfl | exact Or.inl rfl | exact Or.inr rfl | exact trivial | with_reducible constructor | refine ⟨?_, ?_⟩ | (simp; done))); done) | fail) (c_fail ..) rfl ?_ <;> try simp [h, -encB]) | (refine callH (by first | ((refine ⟨?_, ?_, ?_, ?_⟩ <;> repeat' (first | exact rfl | exact Or.inl rfl | exact Or.inr rfl | exact trivial | with_reducible constructor | refine ⟨?_, ?_⟩ | (simp; done))); done) | fail) (c_num ..) ?_ <;> try simp [h, -encB]) | (refine callHD (by first | ((refine ⟨?_, ?_, ?_, ?_⟩ <;> repeat' (first | exact rfl | exact Or.inl rfl | exact Or.inr rfl | exact trivial | with_reducible constructor | refine ⟨?_, ?_⟩ | (simp; done))); done) | fail) (c_num ..) rfl ?_ <;> try simp [h, -encB]) | fail)
    all_goals (refine St.to_chk [] ?_; simp [Rst.fewV, h1, *, -encB])
  · have h1 : Rst.few ⟨b, e⟩ = Rst.num ⟨b, e⟩ := if_neg h
    have h' := eq_false h
    refine fn_of_aw dOk Try.func86 rfl rfl rfl rfl rfl (by simp) rfl (by simp) ?_
    simp [Try.f86, h', -encB]
    repeat' (first | intro _ | with_reducible refine And.intro ?_ ?_ | exact chkI (by kernel_rfl) | exact backI (by kernel_rfl) | (refine callH (by first | ((refine ⟨?_, ?_, ?_, ?_⟩ <;> repeat' (first | exact rfl | exact Or.inl rfl | exact Or.inr rfl | exact trivial | with_reducible constructor | refine ⟨?_, ?_⟩ | (simp; done))); done) | fail) (c_fail ..) ?_ <;> try simp [h', -encB]) | (refine callHD (by first | ((refine ⟨?_, ?_, ?_, ?_⟩ <;> repeat' (first | exact rfl | exact Or.inl rfl | exact Or.inr rfl | exact trivial | with_reducible constructor | refine ⟨?_, ?_⟩ | (simp; done))); done) | fail) (c_fail ..) rfl ?_ <;> try simp [h', -encB]) | (refine callH (by first | ((refine ⟨?_, ?_, ?_, ?_⟩ <;> repeat' (first | exact rfl | exact Or.inl rfl | exact Or.inr rfl | exact trivial | with_reducible constructor | refine ⟨?_, ?_⟩ | (simp; done))); done) | fail) (c_num ..) ?_ <;> try simp [h', -encB]) | (refine callHD (by first | ((refine ⟨?_, ?_, ?_, ?_⟩ <;> repeat' (first | exact rfl | exact Or.inl rfl | exact Or.inr rfl | exact trivial | with_reducible constructor | refine ⟨?_, ?_⟩ | (simp; done))); done) | fail) (c_num ..) rfl ?_ <;> try simp [h', -encB]) | fail)
    all_goals (refine St.to_chk [] ?_; simp [Rst.fewV, h1, *, -encB])
theorem c_textR (b : List UInt8) (e : Int) : Fn Try.prog 88 [.ptr 0 0] [(0, .box false 98 [.sl (encB b), i64 e])] 1 (.str (Rst.textV ⟨b, e⟩)) [(0, .box false 98 [.sl (encB (Rst.text ⟨b, e⟩).b), i64 (Rst.text ⟨b, e⟩).e])] 1 := by
  have hf := fewV_le ⟨b, e⟩
  obtain ⟨n, hn⟩ : ∃ n : Nat, Rst.fewV ⟨b, e⟩ = n := ⟨(Rst.fewV ⟨b, e⟩).toNat, by omega⟩
  unfold Rst.text Rst.textV
  rw [hn] at hf ⊢
  refine fn_of_aw dOk Try.func88 rfl rfl rfl rfl rfl (by simp) rfl (by simp) ?_
  simp [Try.f88, -encB]
  repeat' (first | intro _ | with_reducible refine And.intro ?_ ?_ | exact chkI (by kernel_rfl) | exact backI (by kernel_rfl) | (refine callH (by first | ((refine ⟨?_, ?_, ?_, ?_⟩ <;> repeat' (first | exact rfl | exact Or.inl rfl | exact Or.inr rfl | exact trivial | with_reducible constructor | refine ⟨?_, ?_⟩ | (simp; done))); done) | fail) (c_one ..) ?_ <;> try simp [hn, -encB]) | (refine callHD (by first | ((refine ⟨?_, ?_, ?_, ?_⟩ <;> repeat' (first | exact rfl | exact Or.inl rfl | exact Or.inr rfl | exact trivial | with_reducible constructor | refine ⟨?_, ?_⟩ | (simp; done))); done) | fail) (c_one ..) rfl ?_ <;> try simp [hn, -encB]) | (refine callH (by first | ((refine ⟨?_, ?_, ?_, ?_⟩ <;> repeat' (first | exact rfl | exact Or.inl rfl | exact Or.inr rfl | exact trivial | with_reducible constructor | refine ⟨?_, ?_⟩ | (simp; done))); done) | fail) (c_few8 ..) ?_ <;> try simp [hn, -encB]) | (refine callHD (by first | ((refine ⟨?_, ?_, ?_, ?_⟩ <;> repeat' (first | exact rfl | exact Or.inl rfl | exact Or.inr rfl | exact trivial | with_reducible constructor | refine ⟨?_, ?_⟩ | (simp; done))); done) | fail) (c_few8 ..) rfl ?_ <;> try simp [hn, -encB]) | fail)
  refine aw_loopKM (α := {i : Nat // i ≤ n}) [0, 2, 5, 14, 15] (fun i => [(6, i64 i.1), (3, .rf 1)]) (fun i => [(0, rbx (Rst.skip i.1 (Rst.few ⟨b, e⟩))), (1, .row false 5 1 (encB (Rst.bytes i.1 (Rst.few ⟨b, e⟩))))]) 2 (fun i => n - i.1) ⟨0, by simp⟩ ((St.to_own 3 5 1 rfl (by simp)).trans (St.to_chk [] (by simp [Rst.skip, Rst.bytes, encB_nil, -encB]))) ?_
  rintro ⟨i, j1⟩
  dsimp only
  have hlen : (Rst.bytes i (Rst.few ⟨b, e⟩)).length = i := by
    generalize Rst.few ⟨b, e⟩ = s
    clear j1
    induction i generalizing s with
    | zero => rfl
    | succ i ih => simp [Rst.bytes, ih]
  by_cases hi : i < n
  · have hw := wrI hi (by omega)
    have e1 := skip_succ i (Rst.few ⟨b, e⟩)
    have e2 := bytes_succ i (Rst.few ⟨b, e⟩)
    simp [hi, -encB]
    repeat' (first | intro _ | with_reducible refine And.intro ?_ ?_ | exact chkI (by kernel_rfl) | exact backI (by kernel_rfl) | (refine callH (by first | ((refine ⟨?_, ?_, ?_, ?_⟩ <;> repeat' (first | exact rfl | exact Or.inl rfl | exact Or.inr rfl | exact trivial | with_reducible constructor | refine ⟨?_, ?_⟩ | (simp; done))); done) | fail) (c_one ..) ?_ <;> try simp [hi, hn, -encB]) | (refine callHD (by first | ((refine ⟨?_, ?_, ?_, ?_⟩ <;> repeat' (first | exact rfl | exact Or.inl rfl | exact Or.inr rfl | exact trivial | with_reducible constructor | refine ⟨?_, ?_⟩ | (simp; done))); done) | fail) (c_one ..) rfl ?_ <;> try simp [hi, hn, -encB]) | (refine callH (by first | ((refine ⟨?_, ?_, ?_, ?_⟩ <;> repeat' (first | exact rfl | exact Or.inl rfl | exact Or.inr rfl | exact trivial | with_reducible constructor | refine ⟨?_, ?_⟩ | (simp; done))); done) | fail) (c_few8 ..) ?_ <;> try simp [hi, hn, -encB]) | (refine callHD (by first | ((refine ⟨?_, ?_, ?_, ?_⟩ <;> repeat' (first | exact rfl | exact Or.inl rfl | exact Or.inr rfl | exact trivial | with_reducible constructor | refine ⟨?_, ?_⟩ | (simp; done))); done) | fail) (c_few8 ..) rfl ?_ <;> try simp [hi, hn, -encB]) | fail)
    all_goals first | omega | exact encB_one (by assumption) | (refine Exists.intro (i + 1) (And.intro (by omega) (And.intro (by omega) (St.to_chk [(1, 3)] ?_))); rw [e1, e2]; simp [hw, encB_app, encB_cons, encB_nil, -encB]; done)
  · obtain rfl : i = n := by omega
    simp [toBytes_encB, -encB]
    repeat' (first | intro _ | with_reducible refine And.intro ?_ ?_ | exact chkI (by kernel_rfl) | exact backI (by kernel_rfl) | (refine callH (by first | ((refine ⟨?_, ?_, ?_, ?_⟩ <;> repeat' (first | exact rfl | exact Or.inl rfl | exact Or.inr rfl | exact trivial | with_reducible constructor | refine ⟨?_, ?_⟩ | (simp; done))); done) | fail) (c_one ..) ?_ <;> try simp [toBytes_encB, -encB]) | (refine callHD (by first | ((refine ⟨?_, ?_, ?_, ?_⟩ <;> repeat' (first | exact rfl | exact Or.inl rfl | exact Or.inr rfl | exact trivial | with_reducible constructor | refine ⟨?_, ?_⟩ | (simp; done))); done) | fail) (c_one ..) rfl ?_ <;> try simp [toBytes_encB, -encB]) | (refine callH (by first | ((refine ⟨?_, ?_, ?_, ?_⟩ <;> repeat' (first | exact rfl | exact Or.inl rfl | exact Or.inr rfl | exact trivial | with_reducible constructor | refine ⟨?_, ?_⟩ | (simp; done))); done) | fail) (c_few8 ..) ?_ <;> try simp [toBytes_encB, -encB]) | (refine callHD (by first | ((refine ⟨?_, ?_, ?_, ?_⟩ <;> repeat' (first | exact rfl | exact Or.inl rfl | exact Or.inr rfl | exact trivial | with_reducible constructor | refine ⟨?_, ?_⟩ | (simp; done))); done) | fail) (c_few8 ..) rfl ?_ <;> try simp [toBytes_encB, -encB]) | fail)
    all_goals first | omega | (refine St.to_chk [] ?_; simp [-encB]; done)
theorem c_truthR (b : List UInt8) (e : Int) : Fn Try.prog 90 [.ptr 0 0] [(0, .box false 98 [.sl (encB b), i64 e])] 1 (.bool (Rst.truthV ⟨b, e⟩)) [(0, .box false 98 [.sl (encB (Rst.truth ⟨b, e⟩).b), i64 (Rst.truth ⟨b, e⟩).e])] 1 := by
  by_cases h : 1 < (Rst.oneV ⟨b, e⟩).toNat
  · have h1 : Rst.truth ⟨b, e⟩ = (Rst.one ⟨b, e⟩).fail 4 := if_pos h
    have h' := eq_true (show (1 : Int) < (Rst.oneV ⟨b, e⟩).toNat by omega)
    refine fn_of_aw dOk Try.func90 rfl rfl rfl rfl rfl (by simp) rfl (by simp) ?_
    simp [Try.f90, h', -encB]
    repeat' (first | intro _ | with_reducible refine And.intro ?_ ?_ | exact chkI (by kernel_rfl) | exact backI (by kernel_rfl) | (refine callH (by first | ((refine ⟨?_, ?_, ?_, ?_⟩ <;> repeat' (first | exact rfl | exact Or.inl rfl | exact Or.inr rfl | exact trivial | with_reducible constructor | refine ⟨?_, ?_⟩ | (simp; done))); done) | fail) (c_fail ..) ?_ <;> try simp [h', -encB]) | (refine callHD (by first | ((refine ⟨?_, ?_, ?_, ?_⟩ <;> repeat' (first | exact rfl | exact Or.inl rfl | exact Or.inr rfl | exact trivial | with_reducible constructor | refine ⟨?_, ?_⟩ | (simp; done))); done) | fail) (c_fail ..) rfl ?_ <;> try simp [h', -encB]) | (refine callH (by first | ((refine ⟨?_, ?_, ?_, ?_⟩ <;> repeat' (first | exact rfl | exact Or.inl rfl | exact Or.inr rfl | exact trivial | with_reducible constructor | refine ⟨?_, ?_⟩ | (simp; done))); done) | fail) (c_one ..) ?_ <;> try simp [h', -encB]) | (refine callHD (by first | ((refine ⟨?_, ?_, ?_, ?_⟩ <;> repeat' (first | exact rfl | exact Or.inl rfl | exact Or.inr rfl | exact trivial | with_reducible constructor | refine ⟨?_, ?_⟩ | (simp; done))); done) | fail) (c_one ..) rfl ?_ <;> try simp [h', -encB]) | fail)
    all_goals (refine St.to_chk [] ?_; simp [Rst.truthV, h1, -encB]; try omega)
  · have h1 : Rst.truth ⟨b, e⟩ = Rst.one ⟨b, e⟩ := if_neg h
    have h' := eq_false (show ¬ (1 : Int) < (Rst.oneV ⟨b, e⟩).toNat by omega)
    refine fn_of_aw dOk Try.func90 rfl rfl rfl rfl rfl (by simp) rfl (by simp) ?_
    simp [Try.f90, h', -encB]
    repeat' (first | intro _ | with_reducible refine And.intro ?_ ?_ | exact chkI (by kernel_rfl) | exact backI (by kernel_rfl) | (refine callH (by first | ((refine ⟨?_, ?_, ?_, ?_⟩ <;> repeat' (first | exact rfl | exact Or.inl rfl | exact Or.inr rfl | exact trivial | with_reducible constructor | refine ⟨?_, ?_⟩ | (simp; done))); done) | fail) (c_fail ..) ?_ <;> try simp [h', -encB]) | (refine callHD (by first | ((refine ⟨?_, ?_, ?_, ?_⟩ <;> repeat' (first | exact rfl | exact Or.inl rfl | exact Or.inr rfl | exact trivial | with_reducible constructor | refine ⟨?_, ?_⟩ | (simp; done))); done) | fail) (c_fail ..) rfl ?_ <;> try simp [h', -encB]) | (refine callH (by first | ((refine ⟨?_, ?_, ?_, ?_⟩ <;> repeat' (first | exact rfl | exact Or.inl rfl | exact Or.inr rfl | exact trivial | with_reducible constructor | refine ⟨?_, ?_⟩ | (simp; done))); done) | fail) (c_one ..) ?_ <;> try simp [h', -encB]) | (refine callHD (by first | ((refine ⟨?_, ?_, ?_, ?_⟩ <;> repeat' (first | exact rfl | exact Or.inl rfl | exact Or.inr rfl | exact trivial | with_reducible constructor | refine ⟨?_, ?_⟩ | (simp; done))); done) | fail) (c_one ..) rfl ?_ <;> try simp [h', -encB]) | fail)
    all_goals (refine St.to_chk [] ?_; simp [Rst.truthV, h1, -encB]; try omega)
theorem c_tag (b : List UInt8) (e : Int) (c : Nat) : Fn Try.prog 92 [.ptr 0 0, .int .u8 (c : Int)] [(0, .box false 98 [.sl (encB b), i64 e])] 1 (.tup []) [(0, .box false 98 [.sl (encB (Rst.tag ⟨b, e⟩ c).b), i64 (Rst.tag ⟨b, e⟩ c).e])] 1 := by
  by_cases h : (Rst.oneV ⟨b, e⟩).toNat = c
  · have h1 : Rst.tag ⟨b, e⟩ c = Rst.one ⟨b, e⟩ := if_pos h
    have h' := eq_true (show ((Rst.oneV ⟨b, e⟩).toNat : Int) = c by omega)
    refine fn_of_aw dOk Try.func92 rfl rfl rfl rfl rfl (by simp) rfl (by simp) ?_
    simp [Try.f92, h', -encB]
    repeat' (first | intro _ | with_reducible refine And.intro ?_ ?_ | exact chkI (by kernel_rfl) | exact backI (by kernel_rfl) | (refine callH (by first | ((refine ⟨?_, ?_, ?_, ?_⟩ <;> repeat' (first | exact rfl | exact Or.inl rfl | exact Or.inr rfl | exact trivial | with_reducible constructor | refine ⟨?_, ?_⟩ | (simp; done))); done) | fail) (c_fail ..) ?_ <;> try simp [h', -encB]) | (refine callHD (by first | ((refine ⟨?_, ?_, ?_, ?_⟩ <;> repeat' (first | exact rfl | exact Or.inl rfl | exact Or.inr rfl | exact trivial | with_reducible constructor | refine ⟨?_, ?_⟩ | (simp; done))); done) | fail) (c_fail ..) rfl ?_ <;> try simp [h', -encB]) | (refine callH (by first | ((refine ⟨?_, ?_, ?_, ?_⟩ <;> repeat' (first | exact rfl | exact Or.inl rfl | exact Or.inr rfl | exact trivial | with_reducible constructor | refine ⟨?_, ?_⟩ | (simp; done))); done) | fail) (c_one ..) ?_ <;> try simp [h', -encB]) | (refine callHD (by first | ((refine ⟨?_, ?_, ?_, ?_⟩ <;> repeat' (first | exact rfl | exact Or.inl rfl | exact Or.inr rfl | exact trivial | with_reducible constructor | refine ⟨?_, ?_⟩ | (simp; done))); done) | fail) (c_one ..) rfl ?_ <;> try simp [h', -encB]) | fail)
    all_goals (refine St.to_chk [] ?_; simp [h1, -encB]; try omega)
  · have h1 : Rst.tag ⟨b, e⟩ c = (Rst.one ⟨b, e⟩).fail 4 := if_neg h
    have h' := eq_false (show ¬ ((Rst.oneV ⟨b, e⟩).toNat : Int) = c by omega)
    refine fn_of_aw dOk Try.func92 rfl rfl rfl rfl rfl (by simp) rfl (by simp) ?_
    simp [Try.f92, h', -encB]
    repeat' (first | intro _ | with_reducible refine And.intro ?_ ?_ | exact chkI (by kernel_rfl) | exact backI (by kernel_rfl) | (refine callH (by first | ((refine ⟨?_, ?_, ?_, ?_⟩ <;> repeat' (first | exact rfl | exact Or.inl rfl | exact Or.inr rfl | exact trivial | with_reducible constructor | refine ⟨?_, ?_⟩ | (simp; done))); done) | fail) (c_fail ..) ?_ <;> try simp [h', -encB]) | (refine callHD (by first | ((refine ⟨?_, ?_, ?_, ?_⟩ <;> repeat' (first | exact rfl | exact Or.inl rfl | exact Or.inr rfl | exact trivial | with_reducible constructor | refine ⟨?_, ?_⟩ | (simp; done))); done) | fail) (c_fail ..) rfl ?_ <;> try simp [h', -encB]) | (refine callH (by first | ((refine ⟨?_, ?_, ?_, ?_⟩ <;> repeat' (first | exact rfl | exact Or.inl rfl | exact Or.inr rfl | exact trivial | with_reducible constructor | refine ⟨?_, ?_⟩ | (simp; done))); done) | fail) (c_one ..) ?_ <;> try simp [h', -encB]) | (refine callHD (by first | ((refine ⟨?_, ?_, ?_, ?_⟩ <;> repeat' (first | exact rfl | exact Or.inl rfl | exact Or.inr rfl | exact trivial | with_reducible constructor | refine ⟨?_, ?_⟩ | (simp; done))); done) | fail) (c_one ..) rfl ?_ <;> try simp [h', -encB]) | fail)
    all_goals (refine St.to_chk [] ?_; simp [h1, -encB]; try omega)
end Go.Proofs.Ytalkadbpdaoifaa.AX
