/- Objects frozen, and boxes told in other words, between two steps. -/
import Derived.Test.YtalkadbpdaoifaaMgC
namespace Go.Proofs.Ytalkadbpdaoifaa.AX
open Go Go.RowKit
set_option linter.unusedVariables false
set_option linter.unusedSimpArgs false
/-- An object frozen. -/
theorem St.to_fz (s : Nat) {e : List (Nat × V)} {m : List (Nat × AO)} {n t b : Nat} : (St.mk e m n t).to b ⟨e, fzS s m, n, t⟩ := by
  refine ⟨fun B a w hB hs => ?_⟩
  obtain ⟨H, φ, hd, hsz, he, S⟩ := hs
  obtain ⟨H', hle, S'⟩ := fzS_sat S s
  exact ⟨H', φ, hd, hsz, fun t v hv => by
    obtain ⟨c, g1, g2⟩ := he t v hv
    exact ⟨c, g1, g2.mono hle (fle_refl _)⟩, S'⟩
/-- Cells told without addresses where that can be. -/
def tellL (m : List (Nat × AO)) : List V → List V → Prop
  | [], [] => True
  | v :: r, u :: q => (u = v ∨ pur1 m v = some u) ∧ tellL m r q
  | _, _ => False
theorem tellL_rep {B : Base} {H : Imm} {φ : Nat → Option Value} {mem : List (Nat × AO)} {nx : Nat} {w : World} (S : Sat B H φ mem nx w) : ∀ {cs us : List V} {vs : List Value}, tellL mem cs us → RepL H φ cs vs → (∀ a ∈ cs, a.cell = true) → RepL H φ us vs ∧ ∀ a ∈ us, a.cell = true
  | [], [], vs, _, h, hc => ⟨h, hc⟩
  | v :: r, u :: q, vs, ht, h, hc => by
    obtain ⟨c, cs', rfl⟩ : ∃ c cs', vs = c :: cs' := by
      cases vs with
      | nil => have := h.1; simp at this
      | cons c cs' => exact ⟨c, cs', rfl⟩
    have hr : RepL H φ r cs' := ⟨by simpa using h.1, fun i a' v' e1 e2 => h.2 (i + 1) a' v' (by simpa using e1) (by simpa using e2)⟩
    obtain ⟨k1, k2⟩ := tellL_rep S ht.2 hr fun a ha => hc a (by simp [ha])
    have h0 := h.2 0 v c rfl rfl
    have hh : Rep H φ u c ∧ u.cell = true := by
      rcases ht.1 with e | e
      · subst e; exact ⟨h0, hc _ (by simp)⟩
      · refine ⟨.d _ _ (pur1_rep S e h0), ?_⟩
        have hv := hc v (by simp)
        unfold pur1 at e
        split at e <;> first | (cases e; rfl) | (cases hv; done) | (cases e; done) | (split at e <;> first | (cases e; rfl) | (cases e; done)) | skip
        all_goals (revert e; repeat' (first | (intro e; cases e; first | rfl | done) | split))
    refine ⟨⟨by simp [k1.1], fun i a x e1 e2 => ?_⟩, fun a ha => ?_⟩
    · rcases i with _ | i
      · simp at e1 e2; subst e1; subst e2; exact hh.1
      · exact k1.2 i a x (by simpa using e1) (by simpa using e2)
    · rcases List.mem_cons.1 ha with rfl | ha
      · exact hh.2
      · exact k2 a ha
  | [], u :: q, vs, h, _, _ => h.elim
  | v :: r, [], vs, h, _, _ => h.elim
theorem St.to_tell (s : Nat) (us : List V) {T : TypeId} {cs : List V} {e : List (Nat × V)} {m : List (Nat × AO)} {n t b : Nat} (hs : look s m = some (.box false T cs)) (ht : tellL m cs us) : (St.mk e m n t).to b ⟨e, (s, .box false T us) :: m, n, t⟩ := by
  refine ⟨fun B a w hB hst => ?_⟩
  obtain ⟨H, φ, hd, hsz, he, S⟩ := hst
  refine ⟨H, φ, hd, hsz, he, S.imm, fun k o hk => ?_, S.new, fun k o l g hk hv hl hb => ?_, fun k k' o o' l l' g hk hk' hv hv' hl hl' hb hb' => ?_, S.os, S.tape, S.output, S.size, S.kept, S.him, S.hne, S.fix⟩
  · rw [look_cons] at hk
    split at hk
    · rename_i e1; subst e1; cases hk
      obtain ⟨l, h1, g, vs, h2, h3, h4, h5⟩ := S.obj _ _ hs
      obtain ⟨k1, k2⟩ := tellL_rep S ht h4 h5
      exact ⟨l, h1, g, vs, h2, h3, k1, k2⟩
    · exact S.obj k o hk
  · rw [look_cons] at hk
    split at hk
    · rename_i e1; subst e1; cases hk
      exact S.exc _ _ l g hs rfl hl hb
    · exact S.exc k o l g hk hv hl hb
  · rw [look_cons] at hk hk'
    split at hk
    · rename_i e1; subst e1; cases hk
      split at hk'
      · rename_i e2; exact e2.symm
      · exact S.sep _ _ _ _ l l' g hs hk' rfl hv' hl hl' hb hb'
    · split at hk'
      · rename_i e2; subst e2; cases hk'
        exact S.sep _ _ _ _ l l' g hk hs hv rfl hl hl' hb hb'
      · exact S.sep k k' o o' l l' g hk hk' hv hv' hl hl' hb hb'
attribute [simp] tellL
end Go.Proofs.Ytalkadbpdaoifaa.AX
