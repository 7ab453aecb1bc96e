/- Regions in which a map's entry is asked for: every order, one by one. -/
import Derived.Test.YtnldlkkcdgdkgaaAxAE
namespace Go.Proofs.Ytnldlkkcdgdkgaa.AX
open Go Go.RowKit
set_option linter.unusedVariables false
set_option linter.unusedSimpArgs false
def readyG (dn : List Nat) : Nat → List (List Nat) → List Nat
  | _, [] => []
  | i, a :: r => if dn.contains i = true then readyG dn (i + 1) r else if a.all dn.contains = true then i :: readyG dn (i + 1) r else readyG dn (i + 1) r
def readyL (af : List (List Nat)) (dn : List Nat) : List Nat := readyG dn 0 af
theorem mem_readyG {dn : List Nat} {i : Nat} : ∀ {af : List (List Nat)} {k : Nat}, i ∈ readyG dn k af ↔ k ≤ i ∧ i - k < af.length ∧ i ∉ dn ∧ ∀ j ∈ (af[i - k]?).getD [], j ∈ dn
  | [], k => by simp [readyG]
  | a :: r, k => by
    have ih := mem_readyG (dn := dn) (i := i) (af := r) (k := k + 1)
    have sub : k + 1 ≤ i → (a :: r)[i - k]? = r[i - (k + 1)]? := fun h => by
      rw [show i - k = (i - (k + 1)) + 1 by omega]; rfl
    rw [readyG]
    split
    · rename_i hc
      rw [ih]
      constructor
      · rintro ⟨h1, h2, h3, h4⟩
        exact ⟨by omega, by simp; omega, h3, by rw [sub h1]; exact h4⟩
      · rintro ⟨h1, h2, h3, h4⟩
        have : k ≠ i := fun e => h3 (by rw [← e]; simpa using hc)
        have h5 : k + 1 ≤ i := by omega
        exact ⟨h5, by simp at h2; omega, h3, by rw [← sub h5]; exact h4⟩
    · rename_i hc
      have hk : k ∉ dn := by simpa using hc
      have all : (a.all dn.contains = true) ↔ ∀ j ∈ a, j ∈ dn := by simp [List.all_eq_true]
      split
      · rename_i ha
        rw [List.mem_cons, ih]
        constructor
        · rintro (rfl | ⟨h1, h2, h3, h4⟩)
          · exact ⟨Nat.le_refl _, by simp, hk, by simpa using all.1 ha⟩
          · exact ⟨by omega, by simp; omega, h3, by rw [sub h1]; exact h4⟩
        · rintro ⟨h1, h2, h3, h4⟩
          by_cases e : i = k
          · exact .inl e
          · have h5 : k + 1 ≤ i := by omega
            exact .inr ⟨h5, by simp at h2; omega, h3, by rw [← sub h5]; exact h4⟩
      · rename_i ha
        rw [ih]
        constructor
        · rintro ⟨h1, h2, h3, h4⟩
          exact ⟨by omega, by simp; omega, h3, by rw [sub h1]; exact h4⟩
        · rintro ⟨h1, h2, h3, h4⟩
          by_cases e : i = k
          · subst e
            exact absurd (all.2 (by simpa using h4)) ha
          · have h5 : k + 1 ≤ i := by omega
            exact ⟨h5, by simp at h2; omega, h3, by rw [← sub h5]; exact h4⟩
def allI : List Nat → (Nat → Prop) → Prop
  | [], _ => True
  | i :: r, f => f i ∧ allI r f
/-- Every order in which the operations may come up. -/
def trT (P : Program) (ops : List Oper) (af : List (List Nat)) (K : St → Prop) : Nat → List Nat → St → Prop
  | 0, dn, st => readyL af dn = [] ∧ K st
  | n + 1, dn, st => (readyL af dn = [] → K st) ∧ allI (readyL af dn) fun i => match ops[i]? with
    | some o => o.guard = none ∧ stepK P o st (trT P ops af K n (i :: dn))
    | none => False
def isME (o : Oper) : Bool := match o.op with
  | .mapEntry .. => true
  | _ => false
def drawsT (P : Program) (ops : List Oper) (K : St → Prop) (st : St) : Prop :=
  if ops.any isME = true then ∃ post : St, trT P ops (ops.map onsOf) (fun st' => st'.to st.nx post) ops.length [] st ∧ K post else drawsP P ops K st
theorem allI_ok {f : Nat → Prop} : ∀ {l : List Nat}, allI l f → ∀ i ∈ l, f i
  | i :: r, h, j, hj => by
    rcases List.mem_cons.1 hj with rfl | hj
    · exact h.1
    · exact allI_ok h.2 j hj
theorem readyR_iff {ops : List Oper} {listed : Array Bool} (hs : listed.size = ops.length) (i : Nat) : i ∈ Region.ready .any ops.toArray listed ↔ i < ops.length ∧ listed.getD i false = false ∧ ∀ o, ops[i]? = some o → ∀ j ∈ onsOf o, listed.getD j false = true := by
  unfold Region.ready
  simp only [List.mem_filter, List.mem_range, List.size_toArray, Bool.and_eq_true, Bool.not_eq_true']
  constructor
  · rintro ⟨h1, h2, h3⟩
    refine ⟨h1, ?_, fun o ho j hj => ?_⟩
    · rw [Array.getD_eq_getD_getElem?] at h2 ⊢
      rw [Array.getElem?_eq_getElem (by omega)] at h2 ⊢
      exact h2
    · have h3' : (o.after.all fun e => !Region.binds .any e || listed.getD e.on false) = true := by
        have : (ops.toArray[i]?) = some o := by simpa using ho
        rw [this] at h3
        exact h3
      rw [Array.all_eq_true'] at h3'
      obtain ⟨e, he, rfl⟩ := List.mem_map.1 hj
      obtain ⟨he1, he2⟩ := List.mem_filter.1 he
      have := h3' e (by simpa using he1)
      rw [he2] at this
      simpa using this
  · rintro ⟨h1, h2, h3⟩
    refine ⟨h1, ?_, ?_⟩
    · rw [Array.getD_eq_getD_getElem?] at h2 ⊢
      rw [Array.getElem?_eq_getElem (by omega)] at h2 ⊢
      exact h2
    · have : (ops.toArray[i]?) = some ops[i] := by simp [h1]
      rw [this]
      show (ops[i].after.all fun e => !Region.binds .any e || listed.getD e.on false) = true
      rw [Array.all_eq_true']
      intro e he
      by_cases hbe : Region.binds .any e = true
      · rw [h3 ops[i] (by simp [h1]) e.on (mem_onsOf (by simpa using he) hbe)]
        simp
      · simp [hbe]
theorem mem_readyL {ops : List Oper} {dn : List Nat} {listed : Array Bool} (hs : listed.size = ops.length) (hd : ∀ k, listed.getD k false = true ↔ k ∈ dn) {i : Nat} (hi : i ∈ Region.ready .any ops.toArray listed) : i ∈ readyL (ops.map onsOf) dn := by
  rw [readyR_iff hs] at hi
  obtain ⟨h1, h2, h3⟩ := hi
  have hn : i ∉ dn := fun h => by rw [← hd, h2] at h; cases h
  have ho : ops[i]? = some ops[i] := by simp [h1]
  unfold readyL
  rw [mem_readyG, List.length_map]
  refine ⟨by omega, by omega, hn, ?_⟩
  rw [Nat.sub_zero, List.getElem?_map, ho]
  exact fun j hj => (hd j).1 (h3 _ ho j hj)
theorem readyL_nil {ops : List Oper} {dn : List Nat} {listed : Array Bool} (hs : listed.size = ops.length) (hd : ∀ k, listed.getD k false = true ↔ k ∈ dn) (h : Region.ready .any ops.toArray listed = []) : readyL (ops.map onsOf) dn = [] := by
  rw [List.eq_nil_iff_forall_not_mem]
  intro i hi
  unfold readyL at hi
  rw [mem_readyG, List.length_map, Nat.sub_zero] at hi
  obtain ⟨-, h1, hn, h3⟩ := hi
  have ho : ops[i]? = some ops[i] := by simp [h1]
  rw [List.getElem?_map, ho] at h3
  simp only [Option.map_some, Option.getD_some] at h3
  have : i ∈ Region.ready .any ops.toArray listed := by
    rw [readyR_iff hs]
    refine ⟨h1, ?_, fun o ho' j hj => ?_⟩
    · cases hl : listed.getD i false
      · rfl
      · exact absurd ((hd i).1 hl) hn
    · rw [ho] at ho'
      cases ho'
      exact (hd j).2 (h3 j hj)
  rw [h] at this
  cases this
section
variable {P : Program} {B : Base}
theorem trT_ok {ops : List Oper} {K : St → Prop} {Q : Exit → Act → World → Prop} (hK : ∀ st a w, SatA B st a w → K st → Q .normal a w) : ∀ (n : Nat) (dn : List Nat) (listed : Array Bool) (st : St) (a : Act) (w : World), listed.size = ops.length → (∀ k, listed.getD k false = true ↔ k ∈ dn) → trT P ops (ops.map onsOf) K n dn st → SatA B st a w → wpAny P .any ops.toArray Q n listed a w
  | 0, dn, listed, st, a, w, hs, hd, h, hsat => by
    refine ⟨?_, hK st a w hsat h.2⟩
    rw [List.eq_nil_iff_forall_not_mem]
    intro i hi
    have := mem_readyL hs hd hi
    rw [h.1] at this
    cases this
  | n + 1, dn, listed, st, a, w, hs, hd, h, hsat => by
    refine ⟨fun hnil => hK st a w hsat (h.1 (readyL_nil hs hd hnil)), fun i hi => ?_⟩
    have hr := allI_ok h.2 i (mem_readyL hs hd hi)
    rw [readyR_iff hs] at hi
    have ho : ops[i]? = some ops[i] := by simp [hi.1]
    rw [ho] at hr
    obtain ⟨hg, hst⟩ := hr
    unfold wpOp
    have ho' : ops.toArray[i]? = some ops[i] := by rw [List.getElem?_toArray]; exact ho
    rw [ho']
    simp only
    rw [if_pos (by unfold Region.wanted; rw [hg])]
    refine .inl (Oper.wp_mono (fun a' w' ⟨st', h1, h2⟩ => ?_) (stepK_sound hst hsat))
    refine trT_ok hK n (i :: dn) _ st' a' w' (by rw [Array.size_setIfInBounds]; exact hs) (fun k => ?_) h2 h1
    rw [List.mem_cons, ← hd, Array.getD_eq_getD_getElem?, Array.getD_eq_getD_getElem?, Array.getElem?_setIfInBounds]
    by_cases hik : i = k
    · subst hik
      have : i < listed.size := by omega
      simp [this]
    · simp [hik, fun e => hik (Eq.symm e)]
      exact fun e => absurd e.symm hik
theorem drawsT_ok (hm : P.follows .mixedOrders = true) : DrawsOk P (drawsT P) := by
  intro B id ops K Q st a w hq hs hK
  unfold drawsT at hq
  split at hq
  · obtain ⟨post, h1, h2⟩ := hq
    refine wp_region_any hm ?_
    have hs' : SatA B st a { w with drawn := w.drawn + 1 } := by
      obtain ⟨H, φ, g1, g2, g3, S⟩ := hs
      exact ⟨H, φ, g1, g2, g3, S.grown (w' := { w with drawn := w.drawn + 1 }) ⟨rfl, rfl, rfl, Nat.le_refl _, fun _ _ _ => rfl⟩⟩
    have hn : B.n0 ≤ st.nx := by
      obtain ⟨H, φ, g1, g2, g3, S⟩ := hs
      exact S.fix.1
    obtain ⟨ops⟩ := ops
    refine trT_ok (K := fun st' => st'.to st.nx post) (fun st' a' w' g1 g2 => hK post a' w' (g2.run B a' w' hn g1) h2) _ [] _ st a _ (by simp) (fun k => ?_) h1 hs'
    rw [Array.getD_eq_getD_getElem?, Array.getElem?_replicate]
    split <;> simp
  · exact drawsP_ok hm B id ops K Q st a w hq hs hK
end
theorem inc_region {P : Program} {ops : List Oper} {K : St → Prop} (af : List (List Nat)) {e : List (Nat × V)} {m : List (Nat × AO)} {n t : Nat} (u : List (Nat × AO)) (k : Nat) (h0 : ops.any isME = true) (ha : ops.map onsOf = af) (hlen : ops.length = k)
    (h : ∀ ops' post, ops' = ops → post = (⟨e, u ++ m, n, t⟩ : St) → trT P ops' af (fun st' => st'.to n post) k [] ⟨e, m, n, t⟩) (hk : K ⟨e, u ++ m, n, t⟩) : drawsT P ops K ⟨e, m, n, t⟩ := by
  unfold drawsT
  rw [if_pos h0]
  subst ha
  subst hlen
  exact ⟨_, h _ _ rfl rfl, hk⟩
/-- One after the other. -/
theorem trT_node {P : Program} {ops : List Oper} {af : List (List Nat)} {K : St → Prop} {n : Nat} {dn : List Nat} {st : St} {a : Nat} {r : List Nat} (hl : readyL af dn = a :: r) (h : allI (a :: r) fun i => match ops[i]? with
    | some o => o.guard = none ∧ stepK P o st (trT P ops af K n (i :: dn))
    | none => False) : trT P ops af K (n + 1) dn st := by
  refine ⟨fun hn => ?_, by rw [hl]; exact h⟩
  rw [hl] at hn
  cases hn
theorem trT_leaf {P : Program} {ops : List Oper} {af : List (List Nat)} {K : St → Prop} {dn : List Nat} {st : St} (hl : readyL af dn = []) (h : K st) : trT P ops af K 0 dn st := ⟨hl, h⟩
theorem St.to_le {st post : St} {b : Nat} (h : post.le st) : st.to b post := ⟨fun B a w hB hs => hs.le h⟩
theorem look_push {α : Type} {d t : Nat} {x v : α} {e0 e' : List (Nat × α)} (hd : look d e0 = none) (h0 : look t e0 = some v) (h : look t e' = some v) : look t ((d, x) :: e') = some v := by
  rw [look_cons]
  split
  · rename_i e; subst e; rw [hd] at h0; cases h0
  · exact h
theorem look_dup {α : Type} {k s : Nat} {x y o : α} {m : List (Nat × α)} (h : look s ((k, x) :: m) = some o) : look s ((k, x) :: (k, y) :: m) = some o := by
  rw [look_cons] at h ⊢
  split
  · rename_i e; rw [if_pos e] at h; exact h
  · rename_i e; rw [if_neg e] at h; rw [look_cons, if_neg e]; exact h
theorem drawsT_plain {P : Program} {ops : List Oper} {K : St → Prop} {st : St} (h0 : ops.any isME = false) (h : drawsP P ops K st) : drawsT P ops K st := by
  unfold drawsT
  rw [h0]
  simpa using h
end Go.Proofs.Ytnldlkkcdgdkgaa.AX
