/- A nil list in a box's cell, told as a list of its own. -/
import Derived.Test.YtalkadbpdaoifaaAxAE
namespace Go.Proofs.Ytalkadbpdaoifaa.AX
open Go Go.RowKit
set_option linter.unusedVariables false
set_option linter.unusedSimpArgs false
theorem Sat.retell {B : Base} {H : Imm} {φ : Nat → Option Value} {mem : List (Nat × AO)} {nx : Nat} {w : World} (S : Sat B H φ mem nx w) {s : Nat} {T : TypeId} {cs us : List V} (hs : look s mem = some (.box false T cs))
    (h : ∀ vs, RepL H φ cs vs → (∀ a ∈ cs, a.cell = true) → RepL H φ us vs ∧ ∀ a ∈ us, a.cell = true) : Sat B H φ ((s, .box false T us) :: mem) nx w := by
  refine ⟨S.imm, fun k o hk => ?_, S.new, fun k o l g hk hv hl hb => ?_, fun k k' o o' l l' g hk hk' hv hv' hl hl' hb hb' => ?_, S.os, S.tape, S.output, S.size, S.kept, S.him, S.hne, S.fix⟩
  · rw [look_cons] at hk
    split at hk
    · rename_i e1; subst e1; cases hk
      obtain ⟨l, h1, g, vs, h2, h3, h4, h5⟩ := S.obj _ _ hs
      obtain ⟨k1, k2⟩ := h vs h4 h5
      exact ⟨l, h1, g, vs, h2, h3, k1, k2⟩
    · exact S.obj k o hk
  · rw [look_cons] at hk
    split at hk
    · rename_i e1; subst e1; cases hk
      exact S.exc _ _ l g hs rfl hl hb
    · exact S.exc k o l g hk hv hl hb
  · rw [look_cons] at hk hk'
    split at hk
    · rename_i e1; subst e1; cases hk
      split at hk'
      · rename_i e2; exact e2.symm
      · exact S.sep _ _ _ _ l l' g hs hk' rfl hv' hl hl' hb hb'
    · split at hk'
      · rename_i e2; subst e2; cases hk'
        exact S.sep _ _ _ _ l l' g hk hs hv rfl hl hl' hb hb'
      · exact S.sep k k' o o' l l' g hk hk' hv hv' hl hl' hb hb'
/-- A box's cell that is nil is a list of its own, with nothing in it. -/
theorem St.to_ownB (s i T z : Nat) {T' : TypeId} {cs : List V} {e : List (Nat × V)} {m : List (Nat × AO)} {n t b : Nat} (hs : look s m = some (.box false T' cs)) (hi : cs[i]? = some .nl) (hb : b ≤ n) : (St.mk e m n t).to b ⟨e, (s, .box false T' (cs.set i (.rf n))) :: (n, .row false T z []) :: m, n + 1, t⟩ := by
  refine ⟨fun B a w hB hst => ?_⟩
  obtain ⟨H, φ, hd, hsz, he, S⟩ := hst
  have hnew := S.new n (Nat.le_refl _)
  have hf := fext_upd (Value.slice none 0 0) hnew
  have hne : s ≠ n := fun e1 => by
    subst e1
    obtain ⟨l, h1, _⟩ := S.obj _ _ hs
    rw [hnew] at h1; cases h1
  have S' : Sat B H (upd φ n (.slice none 0 0)) ((n, .row false T z []) :: m) (n + 1) w :=
    S.push ⟨rfl, rfl, rfl, Nat.le_refl _, fun _ _ _ => rfl⟩ (Nat.le_refl _) (Nat.lt_succ_self _) ⟨[], ⟨by simp, .inl ⟨rfl, rfl⟩⟩, by simp, fun i e h => by simp at h⟩ (fun g hg => by cases hg)
  have hs' : look s ((n, .row false T z []) :: m) = some (.box false T' cs) := by rw [look_cons, if_neg hne]; exact hs
  refine ⟨H, upd φ n (.slice none 0 0), hd, hsz, fun t v hv => ?_, S'.retell hs' fun vs hr hc => ⟨⟨by simpa using hr.1, fun k a v h1 h2 => ?_⟩, fun a ha => ?_⟩⟩
  · obtain ⟨c, g1, g2⟩ := he t v hv
    exact ⟨c, g1, g2.mono (Imm.le_refl _) hf.le⟩
  · by_cases hk : k = i
    · subst hk
      have := hr.2 k .nl v hi h2
      obtain rfl := rep_nl this
      rw [List.getElem?_set_self (List.getElem?_eq_some_iff.1 hi).1] at h1
      cases h1
      exact .rf _ _ (upd_same _ _ _) rfl
    · rw [List.getElem?_set_ne (fun e => hk e.symm)] at h1
      exact hr.2 k a v h1 h2
  · rcases List.mem_or_eq_of_mem_set ha with h | h
    · exact hc a h
    · subst h; rfl
end Go.Proofs.Ytalkadbpdaoifaa.AX
