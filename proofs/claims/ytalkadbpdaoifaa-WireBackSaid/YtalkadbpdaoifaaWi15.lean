/- Commands, records and messages as bytes: Encode. -/
import Derived.Test.YtalkadbpdaoifaaWi13
import Derived.Test.YtalkadbpdaoifaaWi14
import Derived.Test.YtalkadbpdaoifaaWi7m
import Derived.Test.YtalkadbpdaoifaaWi8
namespace Go.Proofs.Ytalkadbpdaoifaa.AX
open Go Go.RowKit
set_option linter.unusedSimpArgs false
set_option linter.unusedVariables false
set_option maxRecDepth 100000
set_option maxHeartbeats 4000000
def msgB (m : Msg) : List UInt8 := [3] ++ nums [m.kind.toNat, m.fr.toNat, m.to.toNat, m.bn.toNat, m.br.toNat] ++ recB m.r
theorem enc3 : [[V.int .u8 3]] = encB [3] := by simp [encB]
theorem encB_nil' : encB [] = [] := rfl
theorem c_numbers5 (a b c d e : Int) (ha : 0 ≤ a ∧ a ≤ 4611686018427387904 := by omega) (hb : 0 ≤ b ∧ b ≤ 4611686018427387904 := by omega) (hc : 0 ≤ c ∧ c ≤ 4611686018427387904 := by omega) (hd : 0 ≤ d ∧ d ≤ 4611686018427387904 := by omega)
    (he : 0 ≤ e ∧ e ≤ 4611686018427387904 := by omega) :
    Fn Try.prog 45 [.rf 0, .sl [[i64 a], [i64 b], [i64 c], [i64 d], [i64 e]]] [(0, .row false 5 1 [[V.int .u8 3]])] 1 (.rf 1) [(1, .row false 5 1 (encB (3 :: nums [a.toNat, b.toNat, c.toNat, d.toNat, e.toNat]))), (0, .gone)] 2 := by
  have hall : ∀ x ∈ [a, b, c, d, e], 0 ≤ x ∧ x ≤ 4611686018427387904 := by
    intro x hx
    simp only [List.mem_cons, List.not_mem_nil, or_false] at hx
    rcases hx with rfl | rfl | rfl | rfl | rfl <;> assumption
  have := c_numbersI [3] [a, b, c, d, e] hall (by
    have := nums_len ([a, b, c, d, e].map Int.toNat) (fun n hn => by
      obtain ⟨x, hx, rfl⟩ := List.mem_map.1 hn
      have := hall x hx
      omega)
    simp only [List.length_append]
    simp only [List.length_map, List.length_cons, List.length_nil] at this ⊢
    omega)
  rw [enc3]
  simpa using this
theorem c_putCmdNil (c : Cmd) (hc : c.Small := by assumption) (hn : c.Num := by assumption) : Fn Try.prog 43 [.rf 0, .agg c.cs] [(0, .row false 5 1 [])] 1 (.rf 1) [(1, .row false 5 1 (encB (cmdB c))), (0, .gone)] 2 := by
  have := c_putCmd [] c hc hn (by simp)
  simpa only [encB_nil', List.nil_append] using this
theorem c_putRecNil (r : Rec) (hc : r.c.Small := by assumption) (hn : r.Num := by assumption) : Fn Try.prog 44 [.rf 0, .agg r.cs] [(0, .row false 5 1 [])] 1 (.rf 1) [(1, .row false 5 1 (encB (recB r))), (0, .gone)] 2 := by
  have := c_putRec [] r hc hn (by simp)
  simpa only [encB_nil', List.nil_append] using this
theorem eqL_nil {α : Type} {f : α → α → Bool} : ∀ {l : List α}, eqL f l [] = true → l = []
  | [], _ => rfl
  | a :: r, h => by simp [eqL] at h
theorem okKeysGo_all : ∀ {l : List ByteArray} {p : Option ByteArray}, okKeysGo p l = true → ∀ k ∈ l, k.size ≤ 8
  | [], _, _, k, hk => by simp at hk
  | a :: r, p, h, k, hk => by
    simp only [okKeysGo, Bool.and_eq_true, okKey, decide_eq_true_eq] at h
    rcases List.mem_cons.1 hk with rfl | hk
    · exact h.1.2
    · exact okKeysGo_all h.2.2 k hk
theorem okKeys_all {l : List ByteArray} (h : okKeys l = true) : l.length ≤ 8 ∧ ∀ k ∈ l, k.size ≤ 8 := by
  simp only [okKeys, Bool.and_eq_true, decide_eq_true_eq] at h
  exact ⟨h.2, okKeysGo_all h.1⟩
structure Cmd.Fit (c : Cmd) : Prop where
  rl : c.rs.length ≤ 8
  wl : c.ws.length ≤ 8
  rk : ∀ r ∈ c.rs, r.key.size ≤ 8
  wk : ∀ w ∈ c.ws, w.key.size ≤ 8 ∧ w.val.size ≤ 8
theorem Cmd.right_num {c : Cmd} (h : c.right = true) : c.Num ∧ c.Fit := by
  unfold Cmd.right at h
  split at h
  · simp only [Cmd.same, Bool.and_eq_true, decide_eq_true_eq] at h
    simp only [Cmd.zero] at h
    obtain ⟨h1, h2, h3, h4, h5, h6, h7, h8, h9⟩ := h
    have e1 := eqL_nil h8
    have e2 := eqL_nil h9
    refine ⟨⟨by omega, by omega, by omega, by omega, by omega, by omega, by simp [e1]⟩, by simp [e1], by simp [e2], by simp [e1], by simp [e2]⟩
  · simp only [Bool.and_eq_true, decide_eq_true_eq, okTxn, okStm, List.all_eq_true, Cmd.oldR, shortW] at h
    obtain ⟨⟨h1, h2, h3, h4, h5, h6, h7, h8⟩, h9, h10, h11, h12⟩ := h
    obtain ⟨k1, k2⟩ := okKeys_all h11
    obtain ⟨k3, k4⟩ := okKeys_all h12
    simp only [List.length_map, List.mem_map, forall_exists_index, and_imp, forall_apply_eq_imp_iff₂] at k1 k2 k3 k4
    refine ⟨⟨by omega, by omega, by omega, by omega, by omega, by omega, fun r hr => ?_⟩, k1, k3, k2, fun w hw => ⟨k4 w hw, h10 w hw⟩⟩
    have := (h9 r hr).1
    omega
theorem Rec.right_num {r : Rec} (h : r.right = true) : r.Num ∧ r.c.Fit := by
  unfold Rec.right at h
  simp only [Bool.and_eq_true, decide_eq_true_eq, okInst, okBal] at h
  obtain ⟨h1, h2, h3, h4, h5, h6, h7⟩ := h
  split at h7
  · simp only [Rec.same, Bool.and_eq_true, decide_eq_true_eq] at h7
    simp only [Rec.blank] at h7
    obtain ⟨g1, g2, g3, g4, g5, g6, g7, g8, g9, g10, g11, g12, g13, g14, g15, g16, g17⟩ := h7
    have hz : r.c.right = true := by
      have hk : r.c.kind = 0 := by
        simp only [Cmd.same, Bool.and_eq_true, decide_eq_true_eq] at g17
        exact g17.1
      unfold Cmd.right
      rw [if_pos hk]; exact g17
    obtain ⟨n1, n2⟩ := Cmd.right_num hz
    exact ⟨⟨by omega, by omega, by omega, by omega, by omega, by omega, by omega, by omega, by omega, by omega, by omega, by omega, by omega, by omega, by omega, n1⟩, n2⟩
  · simp only [Bool.and_eq_true, decide_eq_true_eq, okDeps, okDep] at h7
    obtain ⟨g1, g2, g3⟩ := h7
    obtain ⟨n1, n2⟩ := Cmd.right_num g1
    exact ⟨⟨by omega, by omega, by omega, by omega, by omega, by omega, by omega, by omega, by omega, by omega, by omega, by omega, by omega, by omega, by omega, n1⟩, n2⟩
theorem Msg.right_num {m : Msg} (h : m.right = true) : (0 ≤ m.kind ∧ m.kind ≤ 8) ∧ (0 ≤ m.fr ∧ m.fr ≤ 6) ∧ (0 ≤ m.to ∧ m.to ≤ 6) ∧ (0 ≤ m.bn ∧ m.bn ≤ 1099511627776) ∧ (0 ≤ m.br ∧ m.br ≤ 6) ∧ m.r.right = true := by
  unfold Msg.right at h
  simp only [Bool.and_eq_true, decide_eq_true_eq, okBal] at h
  obtain ⟨h1, h2, h3, h4, h5⟩ := h
  exact ⟨by omega, h2, h3, by omega, by omega, h5⟩
end Go.Proofs.Ytalkadbpdaoifaa.AX
