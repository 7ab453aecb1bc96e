/- Steps of a disk and of the document's, in plain Lean; and a row of steps that is read. -/
import Derived.Test.YtpaphcoloogdlaaDkW
namespace Go.Proofs.Ytpaphcoloogdlaa.Dk
open Go.RowKit Go.Proofs.YtpaphcoloogdlaaW.PrintWords Go.Proofs.YtpaphcoloogdlaaW.PrintLast Go.Proofs.YtpaphcoloogdlaaW.PrintMore Go.Proofs.Ytpaphcoloogdlaa.Kit Go.Proofs.Ytpaphcoloogdlaa.PDiskPlays
set_option linter.unusedVariables false
set_option linter.unusedSimpArgs false
theorem at_do {w : World} {A : Option Addr} {xs : List S40} (h : Kd.C k40 w A xs.length xs) (k : Nat) (x : S40) (hx : xs[k]? = some x) :
    ∃ ad A4 c4, A = some ad ∧ w.cell? (ad.add (k * 5)) = some (.int .i64 x.f0) ∧ w.cell? ⟨(ad.add (k * 5)).block, (ad.add (k * 5)).off + 1, none⟩ = some (.int .i64 x.f1) ∧ w.cell? ⟨(ad.add (k * 5)).block, (ad.add (k * 5)).off + 2, none⟩ = some (.int .i64 x.f2) ∧ w.cell? ⟨(ad.add (k * 5)).block, (ad.add (k * 5)).off + 3, none⟩ = some (.int .u8 x.f3) ∧ w.cell? ⟨(ad.add (k * 5)).block, (ad.add (k * 5)).off + 4, none⟩ = some (.slice A4 x.f4.length c4) ∧ x.f4.length ≤ c4 ∧ (Kd.int .u8).C w A4 x.f4.length x.f4 := by
  have hk : k < xs.length := (List.getElem?_eq_some_iff.1 hx).1
  have hrd : rd_T40 xs (k : Int) = x := by simp [rd_T40, hx]
  have := at_T40 h (k : Int) (by omega) (by omega)
  rw [hrd] at this
  simpa using this
def fewS (l : List S40) : Bool := decide ((∀ x ∈ l, x.f4.length ≤ 100) ∧ l.length ≤ 100)
theorem few_go (l : List S40) (hl : l.length ≤ 9223372036854775807) (d : Nat) : ∀ (k i : Nat), i ≤ l.length → l.length - i = d → d < k →
    althinglaw08_few.l0 k l l (l.length : Int) (i : Int) = some (decide ((∀ x ∈ l.drop i, x.f4.length ≤ 100) ∧ l.length ≤ 100)) := by
  induction d with
  | zero =>
    intro k i hi hd hk
    obtain ⟨k, rfl⟩ : ∃ j, k = j + 1 := ⟨k - 1, by omega⟩
    simp only [althinglaw08_few.l0]
    rw [if_neg (by omega), List.drop_of_length_le (by omega)]
    congr 1
    simp
    omega
  | succ d ih =>
    intro k i hi hd hk
    obtain ⟨k, rfl⟩ : ∃ j, k = j + 1 := ⟨k - 1, by omega⟩
    have hx : i < l.length := by omega
    have w : wrap64 ((i : Int) + 1) = ((i + 1 : Nat) : Int) := by unfold wrap64; omega
    have rx : rd_T40 l (i : Int) = l[i] := by simp [rd_T40, hx]
    simp only [althinglaw08_few.l0]
    rw [if_pos (by omega), if_pos (by omega), if_pos (by omega), rx, w, List.drop_eq_getElem_cons hx]
    by_cases h1 : (l[i].f4.length : Int) > 100
    · rw [if_pos h1]
      congr 1
      symm
      refine decide_eq_false fun hh => ?_
      have := hh.1 l[i] List.mem_cons_self
      omega
    · rw [if_neg h1, ih k (i + 1) (by omega) (by omega) (by omega)]
      congr 1
      have h2 : l[i].f4.length ≤ 100 := by omega
      refine decide_eq_decide.2 ⟨fun hh => ⟨fun x hx => ?_, hh.2⟩, fun hh => ⟨fun x hx => hh.1 x (List.mem_cons_of_mem _ hx), hh.2⟩⟩
      rcases List.mem_cons.1 hx with rfl | hx
      · exact h2
      · exact hh.1 x hx
theorem few_calls (A0 : Option Addr) (c0 : Nat) (l : List S40) (w : World) (hr : Kd.C k40 w A0 l.length l) (hc : l.length ≤ c0) (hl : l.length ≤ 9223372036854775807) :
    Calls Try.prog 16 #[.slice A0 l.length c0] w fun e w' => e = .returned (.bool (fewS l)) ∧ Below w.heap.size w w' := by
  have h := few_go l hl l.length (l.length + 1) 0 (by omega) (by omega) (by omega)
  exact althinglaw08_few.calls (l.length + 1) A0 c0 l (fewS l) w hr hc (by unfold althinglaw08_few.f fewS; simpa using h)
/-- The two stand side by side. -/
def Rel (b : List Int) (s : Nat) (S L : List Int) (z : Nat) : Prop := b = S ++ L ∧ s = S.length ∧ b.length ≤ z
theorem kept_eq (S L : List Int) (k : Int) : keptN (S ++ L) S.length k = keptL L k := by
  unfold keptN keptL
  simp only [List.length_append]
  split <;> split <;> omega
theorem crash_rel (S L : List Int) (k t y : Int) : crashB (S ++ L) S.length k t y = S ++ crashP L t y (keptL L k) := by
  have hq : keptL L k ≤ L.length := by unfold keptL; omega
  have ht : (S ++ L).take (S.length + keptL L k) = S ++ L.take (keptL L k) := by rw [List.take_append, List.take_of_length_le (by omega), Nat.add_sub_cancel_left]
  unfold crashB crashP
  rw [kept_eq, ht]
  by_cases h : 0 ≤ t ∧ t < (keptL L k : Int)
  · rw [if_pos h, if_pos h]
    obtain ⟨n, rfl⟩ := Int.eq_ofNat_of_zero_le h.1
    rw [Int.toNat_natCast, List.set_append_right (h := by omega), Nat.add_sub_cancel_left]
    congr 2
    have : n < keptL L k := by omega
    simp only [List.getD_eq_getElem?_getD]
    rw [List.getElem?_append_right (by omega), Nat.add_sub_cancel_left, List.getElem?_take_of_lt this]
  · rw [if_neg h, if_neg h]
theorem crashB_len (b : List Int) (s : Nat) (k t y : Int) (hs : s ≤ b.length) : (crashB b s k t y).length = s + keptN b s k ∧ s + keptN b s k ≤ b.length := by
  have hk : s + keptN b s k ≤ b.length := by
    unfold keptN
    split <;> split <;> omega
  refine ⟨?_, hk⟩
  unfold crashB
  split <;> simp <;> omega
theorem step_rel (x : S40) (b : List Int) (s z : Nat) (S L : List Int) (h : Rel b s S L z) :
    Rel (stD x b s z).1 (stD x b s z).2.1 (stR x S L z).1 (stR x S L z).2.1 z ∧ (stR x S L z).2.2 = (stD x b s z).2.2 := by
  obtain ⟨rfl, rfl, hz⟩ := h
  have hz' : S.length + L.length ≤ z := by simpa using hz
  unfold stD stR
  by_cases h0 : x.f0 = 0
  · simp only [if_pos h0]
    unfold dAppend rAppend
    by_cases hf : S.length + L.length + x.f4.length ≤ z
    · rw [if_pos (by simpa using hf), if_pos hf]
      exact ⟨⟨by simp, rfl, by simp; omega⟩, rfl⟩
    · rw [if_neg (by simpa using hf), if_neg hf]
      exact ⟨⟨rfl, rfl, hz⟩, rfl⟩
  by_cases h1 : x.f0 = 1
  · simp only [if_neg h0, if_pos h1]
    exact ⟨⟨by simp, rfl, hz⟩, by first | rfl | trivial⟩
  by_cases h2 : x.f0 = 2
  · simp only [if_neg h0, if_neg h1, if_pos h2]
    unfold dCut rCut
    by_cases hf : x.f1 < 0 ∨ (S.length : Int) + (L.length : Int) < x.f1
    · rw [if_neg (by simp; omega), if_pos hf]
      exact ⟨⟨rfl, rfl, hz⟩, rfl⟩
    · rw [if_pos (by simp; omega), if_neg hf]
      obtain ⟨m, hm⟩ := Int.eq_ofNat_of_zero_le (show 0 ≤ x.f1 by omega)
      rw [hm, Int.toNat_natCast]
      by_cases h1 : (m : Int) ≤ (S.length : Int)
      · rw [if_pos h1]
        refine ⟨⟨?_, ?_, ?_⟩, rfl⟩
        · rw [List.take_append_of_le_length (by omega)]
          simp
        · simp
          omega
        · simp
          omega
      · rw [if_neg h1]
        refine ⟨⟨?_, ?_, ?_⟩, rfl⟩
        · rw [List.take_append, List.take_of_length_le (by omega)]
        · show min S.length m = S.length
          omega
        · simp
          omega
  by_cases h3 : x.f0 = 3
  · simp only [if_neg h0, if_neg h1, if_neg h2, if_pos h3]
    unfold dReplace rReplace
    by_cases hf : x.f4.length ≤ z
    · rw [if_pos hf, if_pos hf]
      exact ⟨⟨by simp, rfl, hf⟩, rfl⟩
    · rw [if_neg hf, if_neg hf]
      exact ⟨⟨rfl, rfl, hz⟩, rfl⟩
  by_cases h4 : x.f0 = 4
  · simp only [if_neg h0, if_neg h1, if_neg h2, if_neg h3, if_pos h4]
    have hl := crashB_len (S ++ L) S.length x.f1 x.f2 x.f3 (by simp)
    refine ⟨⟨by rw [crash_rel]; simp, by rw [crash_rel], ?_⟩, by first | rfl | trivial⟩
    omega
  · simp only [if_neg h0, if_neg h1, if_neg h2, if_neg h3, if_neg h4]
    exact ⟨⟨rfl, rfl, hz⟩, by first | rfl | trivial⟩
/-- How much is safe, behind a step. -/
theorem step_safe (x : S40) (b : List Int) (s z : Nat) (h : s ≤ b.length) :
    (stD x b s z).2.1 ≤ (stD x b s z).1.length ∧ (s < (stD x b s z).2.1 → x.f0 = 1 ∨ x.f0 = 3 ∨ x.f0 = 4) ∧ ((stD x b s z).2.1 < s → x.f0 = 2 ∨ x.f0 = 3) ∧ (x.f0 = 1 ∨ x.f0 = 4 → (stD x b s z).2.1 = (stD x b s z).1.length) := by
  unfold stD
  by_cases h0 : x.f0 = 0
  · simp only [if_pos h0]
    unfold dAppend
    split
    · simp
      omega
    · simp
      omega
  by_cases h1 : x.f0 = 1
  · simp only [if_neg h0, if_pos h1]
    simp [h1]
    omega
  by_cases h2 : x.f0 = 2
  · simp only [if_neg h0, if_neg h1, if_pos h2]
    unfold dCut
    split
    · simp [h2]
      omega
    · simp [h2]
      omega
  by_cases h3 : x.f0 = 3
  · simp only [if_neg h0, if_neg h1, if_neg h2, if_pos h3]
    unfold dReplace
    split
    · simp [h3]
    · simp [h3]
      omega
  by_cases h4 : x.f0 = 4
  · simp only [if_neg h0, if_neg h1, if_neg h2, if_neg h3, if_pos h4]
    have hl := crashB_len b s x.f1 x.f2 x.f3 h
    simp [h4]
    omega
  · simp only [if_neg h0, if_neg h1, if_neg h2, if_neg h3, if_neg h4]
    simp
    omega
theorem rnew_any (z : Int) (w : World) :
    Calls Try.prog 17 #[.int .i64 z] w fun e w' => ∃ A c A' c', e = .returned (.tuple #[.agg #[.slice A 0 c, .slice A' 0 c', .int .i64 z], .bool (decide (0 ≤ z ∧ z ≤ 1048576))]) ∧ (0 ≤ z ∧ z ≤ 1048576 → Rf w' (.agg #[.slice A 0 c, .slice A' 0 c', .int .i64 z]) [] [] z.toNat) ∧ Below w.heap.size w w' := by
  have hf : althingref08_New.f z = some ([], [], z, decide (0 ≤ z ∧ z ≤ 1048576)) := by
    unfold althingref08_New.f
    by_cases h : z ≥ 0
    · rw [if_pos h]
      have h' : (0 : Int) ≤ z := h
      simp [h']
    · rw [if_neg h]
      have h' : ¬ (0 : Int) ≤ z := h
      simp [h']
  refine (althingref08_New.calls z [] [] z _ w hf).mono ?_
  rintro e w' ⟨v0, v1, rfl, ho, ho1, hb⟩
  obtain ⟨A2, c2, rfl, hr⟩ := own_row (X := fun _ => False) ho (fun k hk => hk.elim)
  obtain ⟨A3, c3, rfl, hr3⟩ := own_row (X := fun _ => False) ho1 (fun k hk => hk.elim)
  refine ⟨A2, c2, A3, c3, rfl, fun hz => ⟨A2, c2, A3, c3, ?_, hr, hr3, by simp, by omega⟩, hb⟩
  rw [show ((z.toNat : Nat) : Int) = z by omega]
  rfl
/-- The document's disk in a variable. -/
def RefAt (w : World) (g : Nat) (S L : List Int) (z : Nat) : Prop := ∃ v0 v1 v2, Rf w (.agg #[v0, v1, v2]) S L z ∧ w.heap[g]? = some (.cells #[v0, v1, v2] 36 (0, 0))
theorem RefAt.below {w w1 : World} {g : Nat} {S L : List Int} {z : Nat} (h : RefAt w g S L z) (hb : Below w.heap.size w w1) : RefAt w1 g S L z := by
  obtain ⟨v0, v1, v2, h1, h2⟩ := h
  exact ⟨v0, v1, v2, h1.below hb, blk_below h2 hb⟩
theorem RefAt.blk {w : World} {g : Nat} {S L : List Int} {z : Nat} (h : RefAt w g S L z) : ∃ v0 v1 v2, w.heap[g]? = some (.cells #[v0, v1, v2] 36 (0, 0)) := by
  obtain ⟨v0, v1, v2, h1, h2⟩ := h
  exact ⟨v0, v1, v2, h2⟩
theorem RefAt.open_ {w : World} {g : Nat} {S L : List Int} {z : Nat} (h : RefAt w g S L z) : ∃ A c A' c', Rf w (.agg #[.slice A S.length c, .slice A' L.length c', .int .i64 (z : Int)]) S L z ∧ w.heap[g]? = some (.cells #[.slice A S.length c, .slice A' L.length c', .int .i64 (z : Int)] 36 (0, 0)) := by
  obtain ⟨v0, v1, v2, h1, h2⟩ := h
  have h1' := h1
  obtain ⟨A, c, A', c', e, _⟩ := h1
  injection e with e
  injection e with e
  injection e with e0 e
  injection e with e1 e
  injection e with e2 _
  subst e0
  subst e1
  subst e2
  exact ⟨A, c, A', c', h1', h2⟩
/-- The variable is given a new value. -/
theorem RefAt.put {w : World} {g : Nat} {S L : List Int} {z : Nat} {v0 v1 v2 a0 a1 a2 : Value} (h : Rf w (.agg #[v0, v1, v2]) S L z) (hb : w.heap[g]? = some (.cells #[a0, a1, a2] 36 (0, 0))) :
    RefAt (((w.setCell ⟨g, 0, none⟩ v0).setCell ⟨g, 1, none⟩ v1).setCell ⟨g, 2, none⟩ v2) g S L z := by
  have q3 := blk_put hb 0 v0 rfl
  have q4 := blk_put q3 1 v1 rfl
  have q5 := blk_put q4 2 v2 rfl
  exact ⟨v0, v1, v2, ((h.set hb (by decide) _ _).set q3 (by decide) _ _).set q4 (by decide) _ _, q5⟩
end Go.Proofs.Ytpaphcoloogdlaa.Dk
