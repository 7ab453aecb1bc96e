/- Reads and writes that are read, and each of them. -/
import Derived.Test.YtalkadbpdaoifaaWd5
namespace Go.Proofs.Ytalkadbpdaoifaa.AX
open Go Go.RowKit
set_option linter.unusedSimpArgs false
set_option linter.unusedVariables false
set_option maxRecDepth 100000
set_option maxHeartbeats 4000000
def Rst.rd (s : Rst) : Rst := s.text.num.num
def Rst.rdV (s : Rst) : Rd := ⟨s.textV, s.text.numV, s.text.num.numV⟩
def Rst.wr (s : Rst) : Rst := s.text.text
def Rst.wrV (s : Rst) : Wr := ⟨s.textV, s.text.textV⟩
def Rst.rds : Nat → Rst → Rst
  | 0, s => s
  | n + 1, s => if s.e = 0 then Rst.rds n s.rd else s
def Rst.rdsV : Nat → Rst → List Rd
  | 0, _ => []
  | n + 1, s => if s.e = 0 then s.rdV :: Rst.rdsV n s.rd else []
def Rst.wrs : Nat → Rst → Rst
  | 0, s => s
  | n + 1, s => if s.e = 0 then Rst.wrs n s.wr else s
def Rst.wrsV : Nat → Rst → List Wr
  | 0, _ => []
  | n + 1, s => if s.e = 0 then s.wrV :: Rst.wrsV n s.wr else []
theorem rds_stop : ∀ (n : Nat) {s : Rst}, s.e ≠ 0 → Rst.rds n s = s
  | 0, _, _ => rfl
  | n + 1, s, h => if_neg h
theorem rds_succ (n : Nat) (s : Rst) : Rst.rds (n + 1) s = (if (Rst.rds n s).e = 0 then (Rst.rds n s).rd else Rst.rds n s) ∧ Rst.rdsV (n + 1) s = (if (Rst.rds n s).e = 0 then Rst.rdsV n s ++ [(Rst.rds n s).rdV] else Rst.rdsV n s) := by
  induction n generalizing s with
  | zero => exact ⟨rfl, rfl⟩
  | succ n ih =>
    by_cases h : s.e = 0
    · have e1 : Rst.rds (n + 1 + 1) s = Rst.rds (n + 1) s.rd := if_pos h
      have e2 : Rst.rds (n + 1) s = Rst.rds n s.rd := if_pos h
      have e3 : Rst.rdsV (n + 1 + 1) s = s.rdV :: Rst.rdsV (n + 1) s.rd := if_pos h
      have e4 : Rst.rdsV (n + 1) s = s.rdV :: Rst.rdsV n s.rd := if_pos h
      rw [e1, e2, e3, e4, (ih s.rd).1, (ih s.rd).2]
      split <;> simp
    · have e1 : Rst.rds (n + 1 + 1) s = s := if_neg h
      have e2 : Rst.rds (n + 1) s = s := if_neg h
      have e3 : Rst.rdsV (n + 1 + 1) s = [] := if_neg h
      have e4 : Rst.rdsV (n + 1) s = [] := if_neg h
      rw [e1, e2, e3, e4]
      simp [h]
theorem wrs_succ (n : Nat) (s : Rst) : Rst.wrs (n + 1) s = (if (Rst.wrs n s).e = 0 then (Rst.wrs n s).wr else Rst.wrs n s) ∧ Rst.wrsV (n + 1) s = (if (Rst.wrs n s).e = 0 then Rst.wrsV n s ++ [(Rst.wrs n s).wrV] else Rst.wrsV n s) := by
  induction n generalizing s with
  | zero => exact ⟨rfl, rfl⟩
  | succ n ih =>
    by_cases h : s.e = 0
    · have e1 : Rst.wrs (n + 1 + 1) s = Rst.wrs (n + 1) s.wr := if_pos h
      have e2 : Rst.wrs (n + 1) s = Rst.wrs n s.wr := if_pos h
      have e3 : Rst.wrsV (n + 1 + 1) s = s.wrV :: Rst.wrsV (n + 1) s.wr := if_pos h
      have e4 : Rst.wrsV (n + 1) s = s.wrV :: Rst.wrsV n s.wr := if_pos h
      rw [e1, e2, e3, e4, (ih s.wr).1, (ih s.wr).2]
      split <;> simp
    · have e1 : Rst.wrs (n + 1 + 1) s = s := if_neg h
      have e2 : Rst.wrs (n + 1) s = s := if_neg h
      have e3 : Rst.wrsV (n + 1 + 1) s = [] := if_neg h
      have e4 : Rst.wrsV (n + 1) s = [] := if_neg h
      rw [e1, e2, e3, e4]
      simp [h]
theorem rdsV_len : ∀ (n : Nat) (s : Rst), (Rst.rdsV n s).length ≤ n
  | 0, s => by simp [Rst.rdsV]
  | n + 1, s => by
    have := rdsV_len n s.rd
    unfold Rst.rdsV
    split <;> simp <;> omega
theorem wrsV_len : ∀ (n : Nat) (s : Rst), (Rst.wrsV n s).length ≤ n
  | 0, s => by simp [Rst.wrsV]
  | n + 1, s => by
    have := wrsV_len n s.wr
    unfold Rst.wrsV
    split <;> simp <;> omega
theorem rds_one {x : List V} {l : List Rd} (h : x ∈ l.map Rd.cs) : x.length = 3 := by
  simp only [List.mem_map] at h
  obtain ⟨b, -, rfl⟩ := h
  rfl
theorem wrs_one {x : List V} {l : List Wr} (h : x ∈ l.map Wr.cs) : x.length = 2 := by
  simp only [List.mem_map] at h
  obtain ⟨b, -, rfl⟩ := h
  rfl
theorem c_rdc (b : List UInt8) (e a1 a2 a3 a4 a5 a6 : Int) (l : List Rd) (hl : l.length ≤ 100 := by omega) : Fn Try.prog 87 [.ptr 0 0, .ptr 1 0] [(0, .box false 96 [.ptr 2 0]), (1, .box false 33 [i64 a1, i64 a2, i64 a3, i64 a4, i64 a5, i64 a6, .rf 3, .nl, .bool false]), (2, .box false 98 [.sl (encB b), i64 e]), (3, .row false 74 3 (l.map Rd.cs))] 4 (.tup [])
    [(0, .box false 96 [.ptr 2 0]), (1, .box false 33 [i64 a1, i64 a2, i64 a3, i64 a4, i64 a5, i64 a6, .rf 4, .nl, .bool false]), (2, .box false 98 [.sl (encB (Rst.rd ⟨b, e⟩).b), i64 (Rst.rd ⟨b, e⟩).e]), (3, .gone), (4, .row false 74 3 ((l ++ [Rst.rdV ⟨b, e⟩]).map Rd.cs))] 5 := by
  refine fn_of_aw dOk Try.func87 rfl rfl rfl rfl rfl (by simp) rfl (by simp) ?_
  simp [Try.f87, -encB]
  repeat' (first | intro _ | with_reducible refine And.intro ?_ ?_ | exact chkI (by kernel_rfl) | exact backI (by kernel_rfl) | (refine callH (by first | ((refine ⟨?_, ?_, ?_, ?_⟩ <;> repeat' (first | exact rfl | exact Or.inl rfl | exact Or.inr rfl | exact trivial | with_reducible constructor | refine ⟨?_, ?_⟩ | (simp; done))); done) | fail) (c_textR ..) ?_ <;> try simp [Rst.nums, -encB]) | (refine callHD (by first | ((refine ⟨?_, ?_, ?_, ?_⟩ <;> repeat' (first | exact rfl | exact Or.inl rfl | exact Or.inr rfl | exact trivial | with_reducible constructor | refine ⟨?_, ?_⟩ | (simp; done))); done) | fail) (c_textR ..) rfl ?_ <;> try simp [Rst.nums, -encB]) | (refine callH (by first | ((refine ⟨?_, ?_, ?_, ?_⟩ <;> repeat' (first | exact rfl | exact Or.inl rfl | exact Or.inr rfl | exact trivial | with_reducible constructor | refine ⟨?_, ?_⟩ | (simp; done))); done) | fail) (c_all5 ..) ?_ <;> try simp [Rst.nums, -encB]) | (refine callHD (by first | ((refine ⟨?_, ?_, ?_, ?_⟩ <;> repeat' (first | exact rfl | exact Or.inl rfl | exact Or.inr rfl | exact trivial | with_reducible constructor | refine ⟨?_, ?_⟩ | (simp; done))); done) | fail) (c_all5 ..) rfl ?_ <;> try simp [Rst.nums, -encB]) | (refine callH (by first | ((refine ⟨?_, ?_, ?_, ?_⟩ <;> repeat' (first | exact rfl | exact Or.inl rfl | exact Or.inr rfl | exact trivial | with_reducible constructor | refine ⟨?_, ?_⟩ | (simp; done))); done) | fail) (c_all8 ..) ?_ <;> try simp [Rst.nums, -encB]) | (refine callHD (by first | ((refine ⟨?_, ?_, ?_, ?_⟩ <;> repeat' (first | exact rfl | exact Or.inl rfl | exact Or.inr rfl | exact trivial | with_reducible constructor | refine ⟨?_, ?_⟩ | (simp; done))); done) | fail) (c_all8 ..) rfl ?_ <;> try simp [Rst.nums, -encB]) | (refine callH (by first | ((refine ⟨?_, ?_, ?_, ?_⟩ <;> repeat' (first | exact rfl | exact Or.inl rfl | exact Or.inr rfl | exact trivial | with_reducible constructor | refine ⟨?_, ?_⟩ | (simp; done))); done) | fail) (c_all6 ..) ?_ <;> try simp [Rst.nums, -encB]) | (refine callHD (by first | ((refine ⟨?_, ?_, ?_, ?_⟩ <;> repeat' (first | exact rfl | exact Or.inl rfl | exact Or.inr rfl | exact trivial | with_reducible constructor | refine ⟨?_, ?_⟩ | (simp; done))); done) | fail) (c_all6 ..) rfl ?_ <;> try simp [Rst.nums, -encB]) | (refine callH (by first | ((refine ⟨?_, ?_, ?_, ?_⟩ <;> repeat' (first | exact rfl | exact Or.inl rfl | exact Or.inr rfl | exact trivial | with_reducible constructor | refine ⟨?_, ?_⟩ | (simp; done))); done) | fail) (c_all2 ..) ?_ <;> try simp [Rst.nums, -encB]) | (refine callHD (by first | ((refine ⟨?_, ?_, ?_, ?_⟩ <;> repeat' (first | exact rfl | exact Or.inl rfl | exact Or.inr rfl | exact trivial | with_reducible constructor | refine ⟨?_, ?_⟩ | (simp; done))); done) | fail) (c_all2 ..) rfl ?_ <;> try simp [Rst.nums, -encB]) | fail)
  all_goals first | omega | exact rds_one (by assumption) | (refine St.to_chk [(4, 7)] ?_; simp [Rst.rd, Rst.rdV, -encB]; done) | trace_state
theorem c_wrc (b : List UInt8) (e a1 a2 a3 a4 a5 a6 : Int) (rs : List Rd) (l : List Wr) (hl : l.length ≤ 100 := by omega) : Fn Try.prog 89 [.ptr 0 0, .ptr 1 0] [(0, .box false 96 [.ptr 2 0]), (1, .box false 33 [i64 a1, i64 a2, i64 a3, i64 a4, i64 a5, i64 a6, .sl (rs.map Rd.cs), .rf 3, .bool false]), (2, .box false 98 [.sl (encB b), i64 e]), (3, .row false 76 2 (l.map Wr.cs))] 4 (.tup [])
    [(0, .box false 96 [.ptr 2 0]), (1, .box false 33 [i64 a1, i64 a2, i64 a3, i64 a4, i64 a5, i64 a6, .sl (rs.map Rd.cs), .rf 4, .bool false]), (2, .box false 98 [.sl (encB (Rst.wr ⟨b, e⟩).b), i64 (Rst.wr ⟨b, e⟩).e]), (3, .gone), (4, .row false 76 2 ((l ++ [Rst.wrV ⟨b, e⟩]).map Wr.cs))] 5 := by
  refine fn_of_aw dOk Try.func89 rfl rfl rfl rfl rfl (by simp) rfl (by simp) ?_
  simp [Try.f89, -encB]
  repeat' (first | intro _ | with_reducible refine And.intro ?_ ?_ | exact chkI (by kernel_rfl) | exact backI (by kernel_rfl) | (refine callH (by first | ((refine ⟨?_, ?_, ?_, ?_⟩ <;> repeat' (first | exact rfl | exact Or.inl rfl | exact Or.inr rfl | exact trivial | with_reducible constructor | refine ⟨?_, ?_⟩ | (simp; done))); done) | fail) (c_textR ..) ?_ <;> try simp [Rst.nums, -encB]) | (refine callHD (by first | ((refine ⟨?_, ?_, ?_, ?_⟩ <;> repeat' (first | exact rfl | exact Or.inl rfl | exact Or.inr rfl | exact trivial | with_reducible constructor | refine ⟨?_, ?_⟩ | (simp; done))); done) | fail) (c_textR ..) rfl ?_ <;> try simp [Rst.nums, -encB]) | fail)
  all_goals first | omega | exact wrs_one (by assumption) | (refine St.to_chk [(4, 6)] ?_; simp [Rst.wr, Rst.wrV, -encB]; done) | trace_state
theorem c_eachR (b : List UInt8) (e a1 a2 a3 a4 a5 a6 : Int) : Fn Try.prog 85 [.fn 87 [.ptr 0 0, .ptr 1 0], .ptr 0 0] [(0, .box false 96 [.ptr 2 0]), (1, .box false 33 [i64 a1, i64 a2, i64 a3, i64 a4, i64 a5, i64 a6, .nl, .nl, .bool false]), (2, .box false 98 [.sl (encB b), i64 e])] 3 (.tup [])
    [(0, .box false 96 [.ptr 2 0]), (1, .box false 33 [i64 a1, i64 a2, i64 a3, i64 a4, i64 a5, i64 a6, .sl ((Rst.rdsV (Rst.fewV ⟨b, e⟩).toNat (Rst.few ⟨b, e⟩)).map Rd.cs), .nl, .bool false]), (2, .box false 98 [.sl (encB (Rst.rds (Rst.fewV ⟨b, e⟩).toNat (Rst.few ⟨b, e⟩)).b), i64 (Rst.rds (Rst.fewV ⟨b, e⟩).toNat (Rst.few ⟨b, e⟩)).e])] 3 := by
  have hf := fewV_le ⟨b, e⟩
  obtain ⟨n, hn⟩ : ∃ n : Nat, Rst.fewV ⟨b, e⟩ = n := ⟨(Rst.fewV ⟨b, e⟩).toNat, by omega⟩
  rw [hn] at hf ⊢
  refine fn_of_aw dOk Try.func85 rfl rfl rfl rfl rfl (by simp) rfl (by simp) ?_
  simp [Try.f85, -encB]
  repeat' (first | intro _ | with_reducible refine And.intro ?_ ?_ | exact chkI (by kernel_rfl) | exact backI (by kernel_rfl) | (refine callH (by first | ((refine ⟨?_, ?_, ?_, ?_⟩ <;> repeat' (first | exact rfl | exact Or.inl rfl | exact Or.inr rfl | exact trivial | with_reducible constructor | refine ⟨?_, ?_⟩ | (simp; done))); done) | fail) (c_few8 ..) ?_ <;> try simp [hn, -encB]) | (refine callHD (by first | ((refine ⟨?_, ?_, ?_, ?_⟩ <;> repeat' (first | exact rfl | exact Or.inl rfl | exact Or.inr rfl | exact trivial | with_reducible constructor | refine ⟨?_, ?_⟩ | (simp; done))); done) | fail) (c_few8 ..) rfl ?_ <;> try simp [hn, -encB]) | fail)
  refine aw_loopKM (α := {i : Nat // i ≤ n}) [0, 1, 4] (fun i => [(5, i64 i.1)]) (fun i => [(0, .box false 96 [.ptr 2 0]), (1, .box false 33 [i64 a1, i64 a2, i64 a3, i64 a4, i64 a5, i64 a6, .rf 3, .nl, .bool false]), (2, rbx (Rst.rds i.1 (Rst.few ⟨b, e⟩))), (3, .row false 74 3 ((Rst.rdsV i.1 (Rst.few ⟨b, e⟩)).map Rd.cs))]) 4 (fun i => n - i.1) ⟨0, by simp⟩ ((St.to_ownB 1 6 74 3 (T' := 33) (cs := [i64 a1, i64 a2, i64 a3, i64 a4, i64 a5, i64 a6, .nl, .nl, .bool false]) (by simp) rfl (by simp)).trans (St.to_chk [] (by simp [Rst.rds, Rst.rdsV, -encB]))) ?_
  rintro ⟨i, j1⟩
  dsimp only
  have hlen := rdsV_len i (Rst.few ⟨b, e⟩)
  by_cases hi : i < n
  · have hw := wrI hi (by omega)
    obtain ⟨e1, e2⟩ := rds_succ i (Rst.few ⟨b, e⟩)
    by_cases he : (Rst.rds i (Rst.few ⟨b, e⟩)).e = 0
    · rw [if_pos he] at e1 e2
      simp [hi, he, -encB]
      repeat' (first | intro _ | with_reducible refine And.intro ?_ ?_ | exact chkI (by kernel_rfl) | exact backI (by kernel_rfl) | (refine callH (by first | ((refine ⟨?_, ?_, ?_, ?_⟩ <;> repeat' (first | exact rfl | exact Or.inl rfl | exact Or.inr rfl | exact trivial | with_reducible constructor | refine ⟨?_, ?_⟩ | (simp; done))); done) | fail) (c_few8 ..) ?_ <;> try simp [hi, hn, -encB]) | (refine callHD (by first | ((refine ⟨?_, ?_, ?_, ?_⟩ <;> repeat' (first | exact rfl | exact Or.inl rfl | exact Or.inr rfl | exact trivial | with_reducible constructor | refine ⟨?_, ?_⟩ | (simp; done))); done) | fail) (c_few8 ..) rfl ?_ <;> try simp [hi, hn, -encB]) | (refine callH (by first | ((refine ⟨?_, ?_, ?_, ?_⟩ <;> repeat' (first | exact rfl | exact Or.inl rfl | exact Or.inr rfl | exact trivial | with_reducible constructor | refine ⟨?_, ?_⟩ | (simp; done))); done) | fail) (c_rdc ..) ?_ <;> try simp [-encB]) | fail)
      refine Exists.intro (i + 1) (And.intro (by omega) (And.intro (by omega) (St.to_chk [(3, 4)] ?_)))
      rw [e1, e2]
      simp [hw, -encB]
    · rw [if_neg he] at e1 e2
      simp [hi, he, -encB]
      refine Exists.intro (i + 1) (And.intro (by omega) (And.intro (by omega) (St.to_chk [] ?_)))
      rw [e1, e2]
      simp [hw, -encB]
  · obtain rfl : i = n := by omega
    simp [-encB]
    refine (St.to_fz 3).trans ((St.to_tell 1 [i64 a1, i64 a2, i64 a3, i64 a4, i64 a5, i64 a6, .sl ((Rst.rdsV i (Rst.few ⟨b, e⟩)).map Rd.cs), .nl, .bool false] (T := 33) (cs := [i64 a1, i64 a2, i64 a3, i64 a4, i64 a5, i64 a6, .rf 3, .nl, .bool false]) ?_ ?_).trans (St.to_chk [] ?_)) <;> simp [-encB]
end Go.Proofs.Ytalkadbpdaoifaa.AX
