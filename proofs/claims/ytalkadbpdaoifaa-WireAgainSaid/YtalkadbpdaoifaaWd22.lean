/- Bytes that were written are read again; with one more, or fewer, they are of nothing. -/
import Derived.Test.YtalkadbpdaoifaaWdP
import Derived.Test.YtalkadbpdaoifaaWd17
import Derived.Test.YtalkadbpdaoifaaWd11
namespace Go.Proofs.Ytalkadbpdaoifaa.AX
open Go Go.RowKit
set_option linter.unusedSimpArgs false
set_option linter.unusedVariables false
set_option maxRecDepth 100000
set_option maxHeartbeats 4000000
theorem st_eq {s : Rst} (h1 : s.e = 0) (h2 : s.b = []) : s = ⟨[], 0⟩ := by
  cases s
  dsimp only at h1 h2
  rw [h1, h2]
theorem Rec.right_cmdP {r : Rec} (h : r.right = true) : r.c.right = true := by
  unfold Rec.right at h
  simp only [Bool.and_eq_true, decide_eq_true_eq] at h
  obtain ⟨h1, h2, h3, h4, h5, h6, h7⟩ := h
  split at h7
  · simp only [Rec.same, Bool.and_eq_true, decide_eq_true_eq] at h7
    simp only [Rec.blank] at h7
    obtain ⟨g1, g2, g3, g4, g5, g6, g7, g8, g9, g10, g11, g12, g13, g14, g15, g16, g17⟩ := h7
    have hk : r.c.kind = 0 := by
      simp only [Cmd.same, Bool.and_eq_true, decide_eq_true_eq] at g17
      exact g17.1
    unfold Cmd.right
    rw [if_pos hk]; exact g17
  · simp only [Bool.and_eq_true] at h7
    exact h7.1
theorem Cmd.right_P {c : Cmd} (h : c.right = true) : Pcmd c := by
  obtain ⟨hn, hf⟩ := Cmd.right_num h
  unfold Cmd.right at h
  split at h
  · simp only [Cmd.same, Bool.and_eq_true, decide_eq_true_eq] at h
    simp only [Cmd.zero] at h
    obtain ⟨h1, h2, h3, h4, h5, h6, h7, h8, h9⟩ := h
    have e1 := eqL_nil h8
    have e2 := eqL_nil h9
    refine ⟨?_, ?_, ?_, ?_, ?_, ?_, ?_, ?_⟩
    · rw [h1]; exact ⟨by decide, by decide⟩
    · rw [h2]; exact ⟨by decide, by decide⟩
    · rw [h3]; exact ⟨by decide, by decide⟩
    · rw [h4]; exact ⟨by decide, by decide⟩
    · rw [h5]; exact ⟨by decide, by decide⟩
    · rw [h6]; exact ⟨by decide, by decide⟩
    · rw [e1]; exact ⟨by simp, by simp⟩
    · rw [e2]; exact ⟨by simp, by simp⟩
  · simp only [Bool.and_eq_true, decide_eq_true_eq, okTxn, okStm, List.all_eq_true, Cmd.oldR, shortW] at h
    obtain ⟨⟨h1, h2, h3, h4, h5, h6, h7, h8⟩, h9, h10, h11, h12⟩ := h
    have q : ∀ {a b : Int}, 0 ≤ a → a ≤ b → b ≤ 1099511627776 → P40 a := fun x y z => ⟨x, by omega⟩
    refine ⟨⟨by omega, by omega⟩, ⟨by omega, by omega⟩, ⟨by omega, by omega⟩, ⟨by omega, by omega⟩, ⟨by omega, by omega⟩, ⟨by omega, by omega⟩, ⟨hf.rl, fun r hr => ?_⟩, ⟨hf.wl, fun w hw => hf.wk w hw⟩⟩
    have := h9 r hr
    exact ⟨hf.rk r hr, ⟨by omega, by omega⟩, ⟨by omega, by omega⟩⟩
theorem Rec.right_P {r : Rec} (h : r.right = true) : Prec r := by
  refine ⟨?_, Cmd.right_P (Rec.right_cmdP h)⟩
  unfold Rec.right at h
  simp only [Bool.and_eq_true, decide_eq_true_eq, okInst, okBal] at h
  obtain ⟨h1, h2, h3, h4, h5, h6, h7⟩ := h
  have e : ∀ {P : Int → Prop} {l : List Int}, (∀ x ∈ l, P x) → ∀ x ∈ l, P x := fun h => h
  have all : P40 r.ir ∧ P40 r.is ∧ P40 r.st ∧ P40 r.pn ∧ P40 r.pr ∧ P40 r.bn ∧ P40 r.br ∧ P40 r.sq ∧ P40 r.d0 ∧ P40 r.d1 ∧ P40 r.d2 ∧ P40 r.d3 ∧ P40 r.d4 ∧ P40 r.d5 ∧ P40 r.d6 := by
    simp only [P40]
    split at h7
    · simp only [Rec.same, Bool.and_eq_true, decide_eq_true_eq] at h7
      simp only [Rec.blank] at h7
      obtain ⟨g1, g2, g3, g4, g5, g6, g7, g8, g9, g10, g11, g12, g13, g14, g15, g16, g17⟩ := h7
      omega
    · simp only [Bool.and_eq_true, decide_eq_true_eq, okDeps, okDep] at h7
      omega
  intro x hx
  simp only [List.mem_cons, List.not_mem_nil, or_false] at hx
  obtain ⟨a0, a1, a2, a3, a4, a5, a6, a7, a8, a9, a10, a11, a12, a13, a14⟩ := all
  rcases hx with rfl | rfl | rfl | rfl | rfl | rfl | rfl | rfl | rfl | rfl | rfl | rfl | rfl | rfl | rfl <;> assumption
theorem Msg.right_P {m : Msg} (h : m.right = true) : Pmsg m := by
  obtain ⟨q1, q2, q3, q4, q5, q6⟩ := Msg.right_num h
  refine ⟨?_, Rec.right_P q6⟩
  intro x hx
  simp only [List.mem_cons, List.not_mem_nil, or_false] at hx
  rcases hx with rfl | rfl | rfl | rfl | rfl <;> exact ⟨by omega, by omega⟩
theorem c_decCB (c : Cmd) (h : c.right = true) : Pure Try.prog 27 [.sl (encB (cmdB c))] (.tup [.ifc 33 (.agg c.cs), i64 0]) := by
  obtain ⟨h1, h2⟩ := fwd_cmd c [] (Cmd.right_P h)
  rw [List.append_nil] at h1 h2
  rw [cmdB_T]
  have := c_decC (cmdT c) (by rw [h1, h2, h]; rfl)
  rw [h2] at this
  exact this
theorem encC {r : List UInt8} (h : (Rst.cmd ⟨r, 0⟩).fin (Rst.cmdV ⟨r, 0⟩).right = 0) : cmdB (Rst.cmdV ⟨r, 0⟩) = 1 :: r := by
  obtain ⟨h1, h2, h3⟩ := fin_ok h
  have hS : Rst.cmd ⟨r, 0⟩ = ⟨[], 0⟩ := st_eq h1 h2
  have := enc_cmd r [] hS
  rw [List.append_nil] at this
  rw [cmdB_T, ← this]
theorem c_decCM (r : List UInt8) (x : UInt8) (h : (Rst.cmd ⟨r, 0⟩).fin (Rst.cmdV ⟨r, 0⟩).right = 0) : Pure Try.prog 27 [.sl (encB (1 :: (r ++ [x])))] (.tup [.nili, i64 5]) := by
  obtain ⟨h1, h2, h3⟩ := fin_ok h
  have hS : Rst.cmd ⟨r, 0⟩ = ⟨[], 0⟩ := st_eq h1 h2
  obtain ⟨c, e1, e2, -⟩ := good_cmd.ok hS
  rw [List.append_nil] at e1
  subst e1
  obtain ⟨a1, -⟩ := e2 [x]
  have hf : (Rst.cmd ⟨r ++ [x], 0⟩).fin (Rst.cmdV ⟨r ++ [x], 0⟩).right = 5 := by
    rw [a1]; rfl
  have := c_decCN (r ++ [x]) (by rw [hf]; decide)
  rw [hf] at this
  exact this
theorem c_decCS (r : List UInt8) (h : (Rst.cmd ⟨r, 0⟩).fin (Rst.cmdV ⟨r, 0⟩).right = 0) : Pure Try.prog 27 [.sl (encB ((1 :: r).take r.length))] (.tup [.nili, i64 3]) := by
  obtain ⟨h1, h2, h3⟩ := fin_ok h
  have hS : Rst.cmd ⟨r, 0⟩ = ⟨[], 0⟩ := st_eq h1 h2
  obtain ⟨c, e1, -, e3⟩ := good_cmd.ok hS
  rw [List.append_nil] at e1
  subst e1
  rcases List.eq_nil_or_concat r with rfl | ⟨p, x, rfl⟩
  · exact c_decE
  · have ht : (1 :: (p ++ [x])).take (p ++ [x]).length = 1 :: p := by simp
    rw [List.concat_eq_append] at *
    rw [ht]
    have hf : (Rst.cmd ⟨p, 0⟩).fin (Rst.cmdV ⟨p, 0⟩).right = 3 := by
      have := e3 p x [] rfl
      unfold Rst.fin
      rw [if_neg (by rw [this]; decide), this]
    have := c_decCN p (by rw [hf]; decide)
    rw [hf] at this
    exact this
theorem c_decRB (q : Rec) (h : q.right = true) : Pure Try.prog 27 [.sl (encB (recB q))] (.tup [.ifc 37 (.agg q.cs), i64 0]) := by
  obtain ⟨h1, h2⟩ := fwd_rcd q [] (Rec.right_P h)
  rw [List.append_nil] at h1 h2
  rw [recB_T]
  have := c_decR (recT' q) (by rw [h1, h2, h]; rfl)
  rw [h2] at this
  exact this
theorem encR {r : List UInt8} (h : (Rst.rcd ⟨r, 0⟩).fin (Rst.recV ⟨r, 0⟩).right = 0) : recB (Rst.recV ⟨r, 0⟩) = 2 :: r := by
  obtain ⟨h1, h2, h3⟩ := fin_ok h
  have hS : Rst.rcd ⟨r, 0⟩ = ⟨[], 0⟩ := st_eq h1 h2
  have := enc_rcd r [] hS
  rw [List.append_nil] at this
  rw [recB_T, ← this]
theorem c_decRM (r : List UInt8) (x : UInt8) (h : (Rst.rcd ⟨r, 0⟩).fin (Rst.recV ⟨r, 0⟩).right = 0) : Pure Try.prog 27 [.sl (encB (2 :: (r ++ [x])))] (.tup [.nili, i64 5]) := by
  obtain ⟨h1, h2, h3⟩ := fin_ok h
  have hS : Rst.rcd ⟨r, 0⟩ = ⟨[], 0⟩ := st_eq h1 h2
  obtain ⟨c, e1, e2, -⟩ := good_rcd.ok hS
  rw [List.append_nil] at e1
  subst e1
  obtain ⟨a1, -⟩ := e2 [x]
  have hf : (Rst.rcd ⟨r ++ [x], 0⟩).fin (Rst.recV ⟨r ++ [x], 0⟩).right = 5 := by
    rw [a1]; rfl
  have := c_decRN (r ++ [x]) (by rw [hf]; decide)
  rw [hf] at this
  exact this
theorem c_decRS (r : List UInt8) (h : (Rst.rcd ⟨r, 0⟩).fin (Rst.recV ⟨r, 0⟩).right = 0) : Pure Try.prog 27 [.sl (encB ((2 :: r).take r.length))] (.tup [.nili, i64 3]) := by
  obtain ⟨h1, h2, h3⟩ := fin_ok h
  have hS : Rst.rcd ⟨r, 0⟩ = ⟨[], 0⟩ := st_eq h1 h2
  obtain ⟨c, e1, -, e3⟩ := good_rcd.ok hS
  rw [List.append_nil] at e1
  subst e1
  rcases List.eq_nil_or_concat r with rfl | ⟨p, x, rfl⟩
  · exact c_decE
  · have ht : (2 :: (p ++ [x])).take (p ++ [x]).length = 2 :: p := by simp
    rw [List.concat_eq_append] at *
    rw [ht]
    have hf : (Rst.rcd ⟨p, 0⟩).fin (Rst.recV ⟨p, 0⟩).right = 3 := by
      have := e3 p x [] rfl
      unfold Rst.fin
      rw [if_neg (by rw [this]; decide), this]
    have := c_decRN p (by rw [hf]; decide)
    rw [hf] at this
    exact this
theorem c_decMB (m : Msg) (h : m.right = true) : Pure Try.prog 27 [.sl (encB (msgB m))] (.tup [.ifc 39 (.agg m.cs), i64 0]) := by
  obtain ⟨h1, h2⟩ := fwd_msg m [] (Msg.right_P h)
  rw [List.append_nil] at h1 h2
  rw [msgB_T]
  have := c_decM (msgT' m) (by rw [h1, h2, h]; rfl)
  rw [h2] at this
  exact this
theorem encM {r : List UInt8} (h : (Rst.msg ⟨r, 0⟩).fin (Rst.msgV ⟨r, 0⟩).right = 0) : msgB (Rst.msgV ⟨r, 0⟩) = 3 :: r := by
  obtain ⟨h1, h2, h3⟩ := fin_ok h
  have hS : Rst.msg ⟨r, 0⟩ = ⟨[], 0⟩ := st_eq h1 h2
  have := enc_msg r [] hS
  rw [List.append_nil] at this
  rw [msgB_T, ← this]
theorem c_decMM (r : List UInt8) (x : UInt8) (h : (Rst.msg ⟨r, 0⟩).fin (Rst.msgV ⟨r, 0⟩).right = 0) : Pure Try.prog 27 [.sl (encB (3 :: (r ++ [x])))] (.tup [.nili, i64 5]) := by
  obtain ⟨h1, h2, h3⟩ := fin_ok h
  have hS : Rst.msg ⟨r, 0⟩ = ⟨[], 0⟩ := st_eq h1 h2
  obtain ⟨c, e1, e2, -⟩ := good_msg.ok hS
  rw [List.append_nil] at e1
  subst e1
  obtain ⟨a1, -⟩ := e2 [x]
  have hf : (Rst.msg ⟨r ++ [x], 0⟩).fin (Rst.msgV ⟨r ++ [x], 0⟩).right = 5 := by
    rw [a1]; rfl
  have := c_decMN (r ++ [x]) (by rw [hf]; decide)
  rw [hf] at this
  exact this
theorem c_decMS (r : List UInt8) (h : (Rst.msg ⟨r, 0⟩).fin (Rst.msgV ⟨r, 0⟩).right = 0) : Pure Try.prog 27 [.sl (encB ((3 :: r).take r.length))] (.tup [.nili, i64 3]) := by
  obtain ⟨h1, h2, h3⟩ := fin_ok h
  have hS : Rst.msg ⟨r, 0⟩ = ⟨[], 0⟩ := st_eq h1 h2
  obtain ⟨c, e1, -, e3⟩ := good_msg.ok hS
  rw [List.append_nil] at e1
  subst e1
  rcases List.eq_nil_or_concat r with rfl | ⟨p, x, rfl⟩
  · exact c_decE
  · have ht : (3 :: (p ++ [x])).take (p ++ [x]).length = 3 :: p := by simp
    rw [List.concat_eq_append] at *
    rw [ht]
    have hf : (Rst.msg ⟨p, 0⟩).fin (Rst.msgV ⟨p, 0⟩).right = 3 := by
      have := e3 p x [] rfl
      unfold Rst.fin
      rw [if_neg (by rw [this]; decide), this]
    have := c_decMN p (by rw [hf]; decide)
    rw [hf] at this
    exact this
end Go.Proofs.Ytalkadbpdaoifaa.AX
