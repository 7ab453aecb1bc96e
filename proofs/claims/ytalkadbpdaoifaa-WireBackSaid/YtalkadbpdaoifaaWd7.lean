/- Writes that are read, each. -/
import Derived.Test.YtalkadbpdaoifaaWd6
namespace Go.Proofs.Ytalkadbpdaoifaa.AX
open Go Go.RowKit
set_option linter.unusedSimpArgs false
set_option linter.unusedVariables false
set_option maxRecDepth 100000
set_option maxHeartbeats 4000000
theorem c_eachW (b : List UInt8) (e a1 a2 a3 a4 a5 a6 : Int) (rs : List Rd) : Fn Try.prog 85 [.fn 89 [.ptr 0 0, .ptr 1 0], .ptr 0 0] [(0, .box false 96 [.ptr 2 0]), (1, .box false 33 [i64 a1, i64 a2, i64 a3, i64 a4, i64 a5, i64 a6, .sl (rs.map Rd.cs), .nl, .bool false]), (2, .box false 98 [.sl (encB b), i64 e])] 3 (.tup [])
    [(0, .box false 96 [.ptr 2 0]), (1, .box false 33 [i64 a1, i64 a2, i64 a3, i64 a4, i64 a5, i64 a6, .sl (rs.map Rd.cs), .sl ((Rst.wrsV (Rst.fewV ⟨b, e⟩).toNat (Rst.few ⟨b, e⟩)).map Wr.cs), .bool false]), (2, .box false 98 [.sl (encB (Rst.wrs (Rst.fewV ⟨b, e⟩).toNat (Rst.few ⟨b, e⟩)).b), i64 (Rst.wrs (Rst.fewV ⟨b, e⟩).toNat (Rst.few ⟨b, e⟩)).e])] 3 := by
  have hf := fewV_le ⟨b, e⟩
  obtain ⟨n, hn⟩ : ∃ n : Nat, Rst.fewV ⟨b, e⟩ = n := ⟨(Rst.fewV ⟨b, e⟩).toNat, by omega⟩
  rw [hn] at hf ⊢
  refine fn_of_aw dOk Try.func85 rfl rfl rfl rfl rfl (by simp) rfl (by simp) ?_
  simp [Try.f85, -encB]
  repeat' (first | intro _ | with_reducible refine And.intro ?_ ?_ | exact chkI (by kernel_rfl) | exact backI (by kernel_rfl) | (refine callH (by first | ((refine ⟨?_, ?_, ?_, ?_⟩ <;> repeat' (first | exact rfl | exact Or.inl rfl | exact Or.inr rfl | exact trivial | with_reducible constructor | refine ⟨?_, ?_⟩ | (simp; done))); done) | fail) (c_few8 ..) ?_ <;> try simp [hn, -encB]) | (refine callHD (by first | ((refine ⟨?_, ?_, ?_, ?_⟩ <;> repeat' (first | exact rfl | exact Or.inl rfl | exact Or.inr rfl | exact trivial | with_reducible constructor | refine ⟨?_, ?_⟩ | (simp; done))); done) | fail) (c_few8 ..) rfl ?_ <;> try simp [hn, -encB]) | (refine callH (by first | ((refine ⟨?_, ?_, ?_, ?_⟩ <;> repeat' (first | exact rfl | exact Or.inl rfl | exact Or.inr rfl | exact trivial | with_reducible constructor | refine ⟨?_, ?_⟩ | (simp; done))); done) | fail) (c_eachR ..) ?_ <;> try simp [hn, -encB]) | (refine callHD (by first | ((refine ⟨?_, ?_, ?_, ?_⟩ <;> repeat' (first | exact rfl | exact Or.inl rfl | exact Or.inr rfl | exact trivial | with_reducible constructor | refine ⟨?_, ?_⟩ | (simp; done))); done) | fail) (c_eachR ..) rfl ?_ <;> try simp [hn, -encB]) | fail)
  refine aw_loopKM (α := {i : Nat // i ≤ n}) [0, 1, 4] (fun i => [(5, i64 i.1)]) (fun i => [(0, .box false 96 [.ptr 2 0]), (1, .box false 33 [i64 a1, i64 a2, i64 a3, i64 a4, i64 a5, i64 a6, .sl (rs.map Rd.cs), .rf 3, .bool false]), (2, rbx (Rst.wrs i.1 (Rst.few ⟨b, e⟩))), (3, .row false 76 2 ((Rst.wrsV i.1 (Rst.few ⟨b, e⟩)).map Wr.cs))]) 4 (fun i => n - i.1) ⟨0, by simp⟩ ((St.to_ownB 1 7 76 2 (T' := 33) (cs := [i64 a1, i64 a2, i64 a3, i64 a4, i64 a5, i64 a6, .sl (rs.map Rd.cs), .nl, .bool false]) (by simp) rfl (by simp)).trans (St.to_chk [] (by simp [Rst.wrs, Rst.wrsV, -encB]))) ?_
  rintro ⟨i, j1⟩
  dsimp only
  have hlen := wrsV_len i (Rst.few ⟨b, e⟩)
  by_cases hi : i < n
  · have hw := wrI hi (by omega)
    obtain ⟨e1, e2⟩ := wrs_succ i (Rst.few ⟨b, e⟩)
    by_cases he : (Rst.wrs i (Rst.few ⟨b, e⟩)).e = 0
    · rw [if_pos he] at e1 e2
      simp [hi, he, -encB]
      repeat' (first | intro _ | with_reducible refine And.intro ?_ ?_ | exact chkI (by kernel_rfl) | exact backI (by kernel_rfl) | (refine callH (by first | ((refine ⟨?_, ?_, ?_, ?_⟩ <;> repeat' (first | exact rfl | exact Or.inl rfl | exact Or.inr rfl | exact trivial | with_reducible constructor | refine ⟨?_, ?_⟩ | (simp; done))); done) | fail) (c_few8 ..) ?_ <;> try simp [hi, hn, -encB]) | (refine callHD (by first | ((refine ⟨?_, ?_, ?_, ?_⟩ <;> repeat' (first | exact rfl | exact Or.inl rfl | exact Or.inr rfl | exact trivial | with_reducible constructor | refine ⟨?_, ?_⟩ | (simp; done))); done) | fail) (c_few8 ..) rfl ?_ <;> try simp [hi, hn, -encB]) | (refine callH (by first | ((refine ⟨?_, ?_, ?_, ?_⟩ <;> repeat' (first | exact rfl | exact Or.inl rfl | exact Or.inr rfl | exact trivial | with_reducible constructor | refine ⟨?_, ?_⟩ | (simp; done))); done) | fail) (c_eachR ..) ?_ <;> try simp [hi, hn, -encB]) | (refine callHD (by first | ((refine ⟨?_, ?_, ?_, ?_⟩ <;> repeat' (first | exact rfl | exact Or.inl rfl | exact Or.inr rfl | exact trivial | with_reducible constructor | refine ⟨?_, ?_⟩ | (simp; done))); done) | fail) (c_eachR ..) rfl ?_ <;> try simp [hi, hn, -encB]) | (refine callH (by first | ((refine ⟨?_, ?_, ?_, ?_⟩ <;> repeat' (first | exact rfl | exact Or.inl rfl | exact Or.inr rfl | exact trivial | with_reducible constructor | refine ⟨?_, ?_⟩ | (simp; done))); done) | fail) (c_wrc ..) ?_ <;> try simp [-encB]) | fail)
      refine Exists.intro (i + 1) (And.intro (by omega) (And.intro (by omega) (St.to_chk [(3, 4)] ?_)))
      rw [e1, e2]
      simp [hw, -encB]
    · rw [if_neg he] at e1 e2
      simp [hi, he, -encB]
      refine Exists.intro (i + 1) (And.intro (by omega) (And.intro (by omega) (St.to_chk [] ?_)))
      rw [e1, e2]
      simp [hw, -encB]
  · obtain rfl : i = n := by omega
    simp [-encB]
    refine (St.to_fz 3).trans ((St.to_tell 1 [i64 a1, i64 a2, i64 a3, i64 a4, i64 a5, i64 a6, .sl (rs.map Rd.cs), .sl ((Rst.wrsV i (Rst.few ⟨b, e⟩)).map Wr.cs), .bool false] (T := 33) (cs := [i64 a1, i64 a2, i64 a3, i64 a4, i64 a5, i64 a6, .sl (rs.map Rd.cs), .rf 3, .bool false]) ?_ ?_).trans (St.to_chk [] ?_)) <;> simp [-encB]
end Go.Proofs.Ytalkadbpdaoifaa.AX
