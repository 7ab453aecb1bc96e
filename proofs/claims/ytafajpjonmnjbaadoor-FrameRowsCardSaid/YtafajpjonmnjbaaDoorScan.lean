/- Scan: all payloads from the beginning on. -/
import Derived.Test.YtafajpjonmnjbaaDoorRGetS
namespace Go.Proofs.YtafajpjonmnjbaaDoor.Fr
open Go.RowKit Go.Proofs.YtafajpjonmnjbaaDoorW.PrintWords Go.Proofs.YtafajpjonmnjbaaDoorW.PrintLast Go.Proofs.YtafajpjonmnjbaaDoorW.PrintMore Go.Proofs.YtafajpjonmnjbaaDoor.Kit Go.Proofs.YtafajpjonmnjbaaDoor.PFrameGets
set_option linter.unusedVariables false
set_option linter.unusedSimpArgs false
def getN (b : List Int) : Nat := (getS b).2.1.toNat
def scanF : Nat → List Int → List (List Int) × Nat
  | 0, _ => ([], 0)
  | k + 1, b => if (getS b).2.2 = 0 then ((getS b).1 :: (scanF k (b.drop (getN b))).1, getN b + (scanF k (b.drop (getN b))).2) else ([], 0)
def scanS (b : List Int) : List (List Int) × Nat := scanF b.length b
theorem getS_ok {b : List Int} (h : (getS b).2.2 = 0) : (getS b).2.1 = (sayN b : Int) + 8 ∧ getN b = sayN b + 8 ∧ getN b ≤ b.length ∧ 9 ≤ getN b ∧ (getS b).1 = (b.take (4 + sayN b)).drop 4 ∧ 1 ≤ sayN b ∧ sayN b ≤ 4096 := by
  unfold getN
  unfold getS at h ⊢
  split at h
  · simp at h
  · rename_i h4
    split at h
    · rename_i hc
      split at h
      · simp at h
      · rename_i h8
        split at h
        · rename_i ht
          rw [if_neg h4, if_pos hc, if_neg h8, if_pos ht]
          dsimp only
          obtain ⟨_, _, hc1, hc2⟩ := hc
          refine ⟨rfl, by omega, by omega, by omega, rfl, by omega, by omega⟩
        · simp at h
    · simp at h
theorem getS_no {b : List Int} (h : (getS b).2.2 ≠ 0) : (getS b).1 = [] ∧ (getS b).2.1 = 0 := by
  unfold getS at h ⊢
  split at h
  · rename_i h4
    rw [if_pos h4]; exact ⟨rfl, rfl⟩
  · rename_i h4
    split at h
    · rename_i hc
      split at h
      · rename_i h8
        rw [if_neg h4, if_pos hc, if_pos h8]; exact ⟨rfl, rfl⟩
      · rename_i h8
        split at h
        · simp at h
        · rename_i ht
          rw [if_neg h4, if_pos hc, if_neg h8, if_neg ht]; exact ⟨rfl, rfl⟩
    · rename_i hc
      rw [if_neg h4, if_neg hc]; exact ⟨rfl, rfl⟩
theorem scanF_more : ∀ (k k' : Nat) (b : List Int), b.length ≤ k → b.length ≤ k' → scanF k b = scanF k' b
  | 0, k', b, h, h' => by
    have hb : b = [] := List.eq_nil_of_length_eq_zero (by omega)
    subst hb
    cases k' with
    | zero => rfl
    | succ k' =>
      have : (getS []).2.2 ≠ 0 := by decide
      simp [scanF, this]
  | k + 1, 0, b, h, h' => by
    have hb : b = [] := List.eq_nil_of_length_eq_zero (by omega)
    subst hb
    have : (getS []).2.2 ≠ 0 := by decide
    simp [scanF, this]
  | k + 1, k' + 1, b, h, h' => by
    by_cases e : (getS b).2.2 = 0
    · have hg := getS_ok e
      have hl : (b.drop (getN b)).length ≤ k := by simp; omega
      have hl' : (b.drop (getN b)).length ≤ k' := by simp; omega
      simp only [scanF, if_pos e, scanF_more k k' _ hl hl']
    · simp only [scanF, if_neg e]
theorem scanS_ok {b : List Int} (e : (getS b).2.2 = 0) : scanS b = ((getS b).1 :: (scanS (b.drop (getN b))).1, getN b + (scanS (b.drop (getN b))).2) := by
  have hg := getS_ok e
  unfold scanS
  obtain ⟨k, hk⟩ : ∃ k, b.length = k + 1 := ⟨b.length - 1, by omega⟩
  rw [hk]
  simp only [scanF, if_pos e]
  rw [scanF_more k (b.drop (getN b)).length _ (by simp; omega) (Nat.le_refl _)]
theorem scanS_no {b : List Int} (e : (getS b).2.2 ≠ 0) : scanS b = ([], 0) := by
  unfold scanS
  cases h : b.length with
  | zero => rfl
  | succ k => simp only [scanF, if_neg e]
theorem scanS_le (k : Nat) : ∀ b : List Int, b.length ≤ k → (scanS b).2 ≤ b.length ∧ 9 * (scanS b).1.length ≤ b.length := by
  induction k with
  | zero =>
    intro b hb
    have hb : b = [] := List.eq_nil_of_length_eq_zero (by omega)
    subst hb
    decide
  | succ k ih =>
    intro b hb
    by_cases e : (getS b).2.2 = 0
    · have hg := getS_ok e
      have := ih (b.drop (getN b)) (by simp; omega)
      rw [scanS_ok e]
      simp only [List.length_drop, List.length_cons] at this ⊢
      omega
    · rw [scanS_no e]; simp
theorem scan_step {b : List Int} {a : Nat} {dn : List (List Int)} (h : scanS b = (dn ++ (scanS (b.drop a)).1, a + (scanS (b.drop a)).2)) (e : (getS (b.drop a)).2.2 = 0) :
    scanS b = ((dn ++ [(getS (b.drop a)).1]) ++ (scanS (b.drop (a + getN (b.drop a)))).1, (a + getN (b.drop a)) + (scanS (b.drop (a + getN (b.drop a)))).2) := by
  rw [scanS_ok e, List.drop_drop] at h
  rw [h]
  simp [List.append_assoc, Nat.add_assoc]
theorem scan_end {b : List Int} {a : Nat} {dn : List (List Int)} (h : scanS b = (dn ++ (scanS (b.drop a)).1, a + (scanS (b.drop a)).2)) (e : (getS (b.drop a)).2.2 ≠ 0) : scanS b = (dn, a) := by
  rw [scanS_no e] at h
  simpa using h
/-- A payload in a block of its own. -/
structure PayAt (w : World) (g : Nat) (h : Hd) (x : List Int) : Prop where
  hd : h.1 = some ⟨g, 0, none⟩
  len : h.2.1 = x.length
  le : x.length ≤ h.2.2
  blk : ∃ cur : Array Value, w.heap[g]? = some (.cells cur 5 (0, 0)) ∧ cur.size = h.2.2 ∧ cur.toList.take x.length = nums .u8 x
/-- Payloads, each in a block of its own, the later ones behind. -/
def Pays (w : World) (base : Nat) (hs : List Hd) (xs : List (List Int)) : Prop :=
  hs.length = xs.length ∧ ∃ gs : List Nat, gs.length = xs.length ∧ (∀ (i : Nat) (h : Hd) (x : List Int) (g : Nat), hs[i]? = some h → xs[i]? = some x → gs[i]? = some g → base ≤ g ∧ g < w.heap.size ∧ PayAt w g h x) ∧ gs.Pairwise (· < ·)
theorem Pays.nil (w : World) (base : Nat) : Pays w base [] [] := ⟨rfl, [], rfl, fun i h x g hh => by simp at hh, List.Pairwise.nil⟩
theorem PayAt.keep {w w1 : World} {g : Nat} {h : Hd} {x : List Int} (p : PayAt w g h x) (hk : w1.heap[g]? = w.heap[g]?) : PayAt w1 g h x := by
  obtain ⟨cur, hb, hs, ht⟩ := p.blk
  exact ⟨p.hd, p.len, p.le, cur, hk.trans hb, hs, ht⟩
theorem Pays.grown {w w1 : World} {base : Nat} {hs : List Hd} {xs : List (List Int)} (p : Pays w base hs xs) {row : Option Nat} (hg : w.grownBy w1 row) (hr : ∀ k, row = some k → ∃ cs t, w.heap[k]? = some (.cells cs t (0, 0)) ∧ t ≠ 5) : Pays w1 base hs xs := by
  obtain ⟨hl, gs, hgl, ha, hp⟩ := p
  refine ⟨hl, gs, hgl, fun i h x g e1 e2 e3 => ?_, hp⟩
  obtain ⟨h1, h2, h3⟩ := ha i h x g e1 e2 e3
  refine ⟨h1, Nat.lt_of_lt_of_le h2 hg.size, h3.keep (hg.block g h2 fun e => ?_)⟩
  obtain ⟨cs, t, hb, ht⟩ := hr g e.symm
  obtain ⟨cur, hb', _⟩ := h3.blk
  rw [hb] at hb'
  injection hb' with hb'
  injection hb' with _ e5
  exact ht e5
theorem Pays.below {w w1 : World} {base : Nat} {hs : List Hd} {xs : List (List Int)} (p : Pays w base hs xs) (hb : Below w.heap.size w w1) : Pays w1 base hs xs :=
  p.grown (row := none) ⟨hb.os, hb.tape, hb.output, hb.size, fun k hk _ => hb.block k hk⟩ (fun k hk => by cases hk)
theorem Pays.snoc {w : World} {base : Nat} {hs : List Hd} {xs : List (List Int)} (p : Pays w base hs xs) {g : Nat} {h : Hd} {x : List Int} (hg : base ≤ g) (hlt : g < w.heap.size) (pa : PayAt w g h x)
    (hnew : ∀ (i : Nat) (h' : Hd) (x' : List Int) (g' : Nat), hs[i]? = some h' → xs[i]? = some x' → h'.1 = some ⟨g', 0, none⟩ → g' < g) : Pays w base (hs ++ [h]) (xs ++ [x]) := by
  obtain ⟨hl, gs, hgl, ha, hp⟩ := p
  refine ⟨by simp [hl], gs ++ [g], by simp [hgl], fun i h' x' g' e1 e2 e3 => ?_, ?_⟩
  · by_cases hi : i < xs.length
    · rw [List.getElem?_append_left (by omega)] at e1 e2 e3
      exact ha i h' x' g' e1 e2 e3
    · have hi' : i = xs.length := by
        have := (List.getElem?_eq_some_iff.1 e2).1
        simp at this
        omega
      subst hi'
      rw [List.getElem?_append_right (by omega)] at e1 e2 e3
      simp [hl, hgl] at e1 e2 e3
      subst e1; subst e2; subst e3
      exact ⟨hg, hlt, pa⟩
  · rw [List.pairwise_append]
    refine ⟨hp, by simp, fun a ha' b hb => ?_⟩
    simp only [List.mem_singleton] at hb
    subst hb
    obtain ⟨i, hi, rfl⟩ := List.getElem_of_mem ha'
    have e3 : gs[i]? = some gs[i] := List.getElem?_eq_getElem hi
    have e1 : hs[i]? = some (hs[i]'(by omega)) := List.getElem?_eq_getElem _
    have e2 : xs[i]? = some (xs[i]'(by omega)) := List.getElem?_eq_getElem _
    obtain ⟨_, _, h3⟩ := ha i _ _ _ e1 e2 e3
    exact hnew i _ _ _ e1 e2 h3.hd
end Go.Proofs.YtafajpjonmnjbaaDoor.Fr
