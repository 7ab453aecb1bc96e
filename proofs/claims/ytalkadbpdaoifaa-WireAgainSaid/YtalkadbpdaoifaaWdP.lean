/- Readers that go on just so with more bytes, and come short with fewer. -/
import Derived.Test.YtalkadbpdaoifaaWd14
import Derived.Test.YtalkadbpdaoifaaWi15
namespace Go.Proofs.Ytalkadbpdaoifaa.AX
open Go Go.RowKit
set_option linter.unusedSimpArgs false
set_option linter.unusedVariables false
structure Good {α : Type} (F : Rst → Rst) (V : Rst → α) : Prop where
  bad : ∀ {s : Rst}, s.e ≠ 0 → F s = s
  ok : ∀ {b r : List UInt8}, F ⟨b, 0⟩ = ⟨r, 0⟩ → ∃ c, b = c ++ r ∧ (∀ t, F ⟨c ++ t, 0⟩ = ⟨t, 0⟩ ∧ V ⟨c ++ t, 0⟩ = V ⟨b, 0⟩) ∧ ∀ p x q, c = p ++ x :: q → (F ⟨p, 0⟩).e = 3
theorem Good.bind {α β : Type} {F : Rst → Rst} {V : Rst → α} {G : α → Rst → Rst} {W : α → Rst → β} (h : Good F V) (g : ∀ a, Good (G a) (W a)) : Good (fun s => G (V s) (F s)) (fun s => (V s, W (V s) (F s))) := by
  refine ⟨fun {s} hs => ?_, fun {b r} hb => ?_⟩
  · show G (V s) (F s) = s
    rw [h.bad hs, (g _).bad hs]
  · have hb' : G (V ⟨b, 0⟩) (F ⟨b, 0⟩) = ⟨r, 0⟩ := hb
    rcases hF : F ⟨b, 0⟩ with ⟨r1, e1⟩
    rw [hF] at hb'
    have he : e1 = 0 := by
      by_cases he : e1 = 0
      · exact he
      · rw [(g _).bad (s := ⟨r1, e1⟩) he] at hb'
        cases hb'; rfl
    subst he
    obtain ⟨c1, h1, h2, h3⟩ := h.ok hF
    obtain ⟨c2, g1, g2, g3⟩ := (g _).ok hb'
    subst g1
    refine ⟨c1 ++ c2, by rw [h1, List.append_assoc], fun t => ?_, fun p x q hp => ?_⟩
    · obtain ⟨a1, a2⟩ := h2 (c2 ++ t)
      obtain ⟨a3, a4⟩ := g2 t
      rw [List.append_assoc]
      refine ⟨?_, ?_⟩
      · show G (V ⟨c1 ++ (c2 ++ t), 0⟩) (F ⟨c1 ++ (c2 ++ t), 0⟩) = _
        rw [a2, a1, a3]
      · show (V ⟨c1 ++ (c2 ++ t), 0⟩, W (V ⟨c1 ++ (c2 ++ t), 0⟩) (F ⟨c1 ++ (c2 ++ t), 0⟩)) = (V ⟨b, 0⟩, W (V ⟨b, 0⟩) ⟨c2 ++ r, 0⟩)
        rw [a2, a1, a4]
    · show (G (V ⟨p, 0⟩) (F ⟨p, 0⟩)).e = 3
      rcases List.append_eq_append_iff.1 hp with ⟨a, ha, hc⟩ | ⟨a, ha, hc⟩
      · -- p = c1 ++ a
        subst ha
        obtain ⟨a1, a2⟩ := h2 a
        rw [a2, a1]
        exact g3 a x q hc
      · -- c1 = p ++ a, x :: q = a ++ c2
        rcases a with _ | ⟨y, a⟩
        · simp only [List.append_nil] at ha
          subst ha
          obtain ⟨a1, a2⟩ := h2 []
          rw [List.append_nil] at a1 a2
          rw [a2, a1]
          exact g3 [] x q (by simpa using hc.symm)
        · have := h3 p y a ha
          rw [(g _).bad (s := F ⟨p, 0⟩) (by rw [this]; decide)]
          exact this
theorem Good.congr {α β : Type} {F F' : Rst → Rst} {V : Rst → α} {V' : Rst → β} (f : α → β) (h : Good F V) (hF : ∀ s, F' s = F s) (hV : ∀ b, (F ⟨b, 0⟩).e = 0 → V' ⟨b, 0⟩ = f (V ⟨b, 0⟩)) : Good F' V' := by
  refine ⟨fun {s} hs => by rw [hF]; exact h.bad hs, fun {b r} hb => ?_⟩
  rw [hF] at hb
  obtain ⟨c, h1, h2, h3⟩ := h.ok hb
  refine ⟨c, h1, fun t => ?_, fun p x q hp => by rw [hF]; exact h3 p x q hp⟩
  obtain ⟨a1, a2⟩ := h2 t
  exact ⟨by rw [hF]; exact a1, by rw [hV _ (by rw [a1]), a2, hV b (by rw [hb])]⟩
theorem good_id {α : Type} (v : α) : Good (fun s => s) (fun _ => v) :=
  ⟨fun _ => rfl, fun {b r} hb => ⟨[], by simpa using congrArg Rst.b hb, fun t => ⟨rfl, rfl⟩, fun p x q hp => by simp at hp⟩⟩
theorem good_fail {α : Type} (V : Rst → α) {k : Int} (hk : k ≠ 0) : Good (fun s => s.fail k) V :=
  ⟨fun hs => fail_bad hs k, fun {b r} hb => by
    have := fail_e ⟨b, 0⟩ hk
    rw [hb] at this
    exact absurd rfl this⟩
theorem good_one : Good Rst.one Rst.oneV := by
  refine ⟨fun hs => (one_bad hs).1, fun {b r} hb => ?_⟩
  rcases b with _ | ⟨c, b⟩
  · cases hb
  · cases hb
    refine ⟨[c], rfl, fun t => ⟨rfl, rfl⟩, fun p x q hp => ?_⟩
    rcases p with _ | ⟨y, p⟩
    · rfl
    · simp at hp
theorem numGo_succ (f k n : Nat) (s : Rst) : numGo (f + 1) k n s = if s.one.e ≠ 0 then (s.one, 0)
    else if 128 ≤ s.oneV.toNat then numGo f (k + 1) (n + (s.oneV.toNat - 128) * 128 ^ k) s.one
    else if s.oneV.toNat = 0 ∧ 0 < k then (s.one.fail 4, n)
    else if 1099511627776 < n + s.oneV.toNat * 128 ^ k then (s.one.fail 2, n + s.oneV.toNat * 128 ^ k)
    else (s.one, n + s.oneV.toNat * 128 ^ k) := rfl
theorem good_go : ∀ (f k n : Nat), Good (fun s => (numGo f k n s).1) (fun s => (numGo f k n s).2)
  | 0, k, n => good_fail _ (by decide)
  | f + 1, k, n => by
    have := Good.bind (G := fun (v : UInt8) s => if 128 ≤ v.toNat then (numGo f (k + 1) (n + (v.toNat - 128) * 128 ^ k) s).1 else if v.toNat = 0 ∧ 0 < k then s.fail 4 else if 1099511627776 < n + v.toNat * 128 ^ k then s.fail 2 else s)
      (W := fun (v : UInt8) s => if 128 ≤ v.toNat then (numGo f (k + 1) (n + (v.toNat - 128) * 128 ^ k) s).2 else n + v.toNat * 128 ^ k) good_one (fun v => ?_)
    · refine this.congr (fun p => p.2) (fun s => ?_) (fun b hb => ?_)
      · show (numGo (f + 1) k n s).1 = _
        rw [numGo_succ]
        by_cases h1 : s.one.e = 0
        · rw [if_neg (by simp [h1])]
          split
          · rfl
          · split
            · rfl
            · split <;> rfl
        · rw [if_pos h1]
          dsimp only
          split
          · exact ((good_go f _ _).bad h1).symm
          · split
            · exact (fail_bad h1 4).symm
            · split
              · exact (fail_bad h1 2).symm
              · rfl
      · show (numGo (f + 1) k n ⟨b, 0⟩).2 = _
        have h1 : (Rst.one ⟨b, 0⟩).e = 0 := by
          by_cases h1 : (Rst.one ⟨b, 0⟩).e = 0
          · exact h1
          · exfalso
            split at hb
            · rw [(good_go f _ _).bad h1] at hb; exact h1 hb
            · split at hb
              · rw [fail_bad h1] at hb; exact h1 hb
              · split at hb
                · rw [fail_bad h1] at hb; exact h1 hb
                · exact h1 hb
        rw [numGo_succ, if_neg (by simp [h1])]
        dsimp only
        split
        · rfl
        · split
          · rename_i hz
            exfalso
            rw [if_neg (by omega), if_pos hz] at hb
            exact fail_e _ (by decide) hb
          · split <;> rfl
    · split
      · exact good_go f _ _
      · split
        · exact good_fail _ (by decide)
        · split
          · exact good_fail _ (by decide)
          · exact good_id _
theorem good_num : Good Rst.num Rst.numV := (good_go 6 0 0).congr (fun (n : Nat) => (n : Int)) (fun _ => rfl) (fun _ _ => rfl)
theorem good_few : Good Rst.few Rst.fewV := by
  have := Good.bind (G := fun (v : Int) s => if 8 < v then s.fail 2 else s) (W := fun v _ => v) good_num (fun v => by
    split
    · exact good_fail _ (by decide)
    · exact good_id _)
  exact this.congr (fun p : Int × Int => p.1) (fun s => rfl) (fun b hb => by
    show (if (Rst.few ⟨b, 0⟩).e = 0 then _ else _) = _
    exact if_pos hb)
theorem good_skip : ∀ n : Nat, Good (Rst.skip n) (Rst.bytes n)
  | 0 => good_id _
  | n + 1 => (Good.bind (G := fun _ => Rst.skip n) (W := fun _ => Rst.bytes n) good_one (fun _ => good_skip n)).congr (fun p => p.1 :: p.2) (fun _ => rfl) (fun _ _ => rfl)
theorem good_text : Good Rst.text Rst.textV :=
  (Good.bind (G := fun (v : Int) => Rst.skip v.toNat) (W := fun v => Rst.bytes v.toNat) good_few (fun v => good_skip _)).congr (fun p => ⟨p.2.toArray⟩) (fun _ => rfl) (fun _ _ => rfl)
theorem good_truth : Good Rst.truth Rst.truthV :=
  (Good.bind (G := fun (v : UInt8) s => if 1 < v.toNat then s.fail 4 else s) (W := fun v _ => v) good_one (fun v => by
    split
    · exact good_fail _ (by decide)
    · exact good_id _)).congr (fun p => decide (p.1.toNat = 1)) (fun _ => rfl) (fun _ _ => rfl)
theorem good_tag (c : Nat) : Good (fun s => s.tag c) (fun _ => ()) :=
  (Good.bind (G := fun (v : UInt8) s => if v.toNat = c then s else s.fail 4) (W := fun v _ => v) good_one (fun v => by
    split
    · exact good_id _
    · exact good_fail _ (by decide))).congr (fun _ => ()) (fun _ => rfl) (fun _ _ => rfl)
theorem Good.seq {α β : Type} {F G : Rst → Rst} {V : Rst → α} {W : Rst → β} (h : Good F V) (g : Good G W) : Good (fun s => G (F s)) (fun s => (V s, W (F s))) := Good.bind (G := fun _ => G) (W := fun _ => W) h (fun _ => g)
theorem good_rd : Good Rst.rd Rst.rdV := (good_text.seq (good_num.seq good_num)).congr (fun p => ⟨p.1, p.2.1, p.2.2⟩) (fun _ => rfl) (fun _ _ => rfl)
theorem good_wr : Good Rst.wr Rst.wrV := (good_text.seq good_text).congr (fun p => ⟨p.1, p.2⟩) (fun _ => rfl) (fun _ _ => rfl)
theorem good_rds : ∀ n : Nat, Good (Rst.rds n) (Rst.rdsV n)
  | 0 => good_id _
  | n + 1 => (good_rd.seq (good_rds n)).congr (fun p : Rd × List Rd => p.1 :: p.2) (fun s => by
      show (if s.e = 0 then Rst.rds n s.rd else s) = Rst.rds n s.rd
      split
      · rfl
      · rename_i h
        rw [good_rd.bad h, (good_rds n).bad h]) (fun b _ => by
      show (if (0 : Int) = 0 then _ else _) = _
      exact if_pos rfl)
theorem good_wrs : ∀ n : Nat, Good (Rst.wrs n) (Rst.wrsV n)
  | 0 => good_id _
  | n + 1 => (good_wr.seq (good_wrs n)).congr (fun p : Wr × List Wr => p.1 :: p.2) (fun s => by
      show (if s.e = 0 then Rst.wrs n s.wr else s) = Rst.wrs n s.wr
      split
      · rfl
      · rename_i h
        rw [good_wr.bad h, (good_wrs n).bad h]) (fun b _ => by
      show (if (0 : Int) = 0 then _ else _) = _
      exact if_pos rfl)
theorem good_rdsS : Good Rst.rdsS Rst.rdsL := (Good.bind (G := fun (v : Int) => Rst.rds v.toNat) (W := fun v => Rst.rdsV v.toNat) good_few (fun v => good_rds _)).congr (fun p => p.2) (fun _ => rfl) (fun _ _ => rfl)
theorem good_wrsS : Good Rst.wrsS Rst.wrsL := (Good.bind (G := fun (v : Int) => Rst.wrs v.toNat) (W := fun v => Rst.wrsV v.toNat) good_few (fun v => good_wrs _)).congr (fun p => p.2) (fun _ => rfl) (fun _ _ => rfl)
theorem good_cmd : Good Rst.cmd Rst.cmdV :=
  (good_num.seq (good_num.seq (good_num.seq (good_num.seq (good_num.seq (good_num.seq (good_rdsS.seq (good_wrsS.seq good_truth)))))))).congr
    (fun ⟨a, b, c, d, e, f, g, h, i⟩ => ⟨a, b, c, d, e, f, g, h, i⟩) (fun _ => rfl) (fun _ _ => rfl)
theorem good_recT : Good Rst.recT (fun s => (Rst.nums 15 s).truthV) :=
  (good_num.seq (good_num.seq (good_num.seq (good_num.seq (good_num.seq (good_num.seq (good_num.seq (good_num.seq (good_num.seq (good_num.seq (good_num.seq (good_num.seq (good_num.seq (good_num.seq (good_num.seq (good_truth.seq (good_tag 1))))))))))))))))).congr
    (fun ⟨_, _, _, _, _, _, _, _, _, _, _, _, _, _, _, t, _⟩ => t) (fun _ => rfl) (fun _ _ => rfl)
theorem good_rcd : Good Rst.rcd Rst.recV :=
  (good_num.seq (good_num.seq (good_num.seq (good_num.seq (good_num.seq (good_num.seq (good_num.seq (good_num.seq (good_num.seq (good_num.seq (good_num.seq (good_num.seq (good_num.seq (good_num.seq (good_num.seq (good_truth.seq ((good_tag 1).seq good_cmd))))))))))))))))).congr
    (fun ⟨a0, a1, a2, a3, a4, a5, a6, a7, a8, a9, a10, a11, a12, a13, a14, t, _, c⟩ => ⟨a0, a1, a2, a3, a4, a5, a6, c, a7, a8, a9, a10, a11, a12, a13, a14, t⟩) (fun _ => rfl) (fun _ _ => rfl)
theorem good_msg : Good Rst.msg Rst.msgV :=
  (good_num.seq (good_num.seq (good_num.seq (good_num.seq (good_num.seq ((good_tag 2).seq good_rcd)))))).congr
    (fun ⟨a0, a1, a2, a3, a4, _, r⟩ => ⟨a0, a1, a2, a3, a4, r⟩) (fun _ => rfl) (fun _ _ => rfl)
end Go.Proofs.Ytalkadbpdaoifaa.AX
namespace Go.Proofs.Ytalkadbpdaoifaa.AX
open Go Go.RowKit
set_option linter.unusedSimpArgs false
set_option linter.unusedVariables false
def Enc {α : Type} (F : Rst → Rst) (V : Rst → α) (B : α → List UInt8) : Prop := ∀ b r : List UInt8, F ⟨b, 0⟩ = ⟨r, 0⟩ → b = B (V ⟨b, 0⟩) ++ r
def Fwd {α : Type} (F : Rst → Rst) (V : Rst → α) (B : α → List UInt8) (P : α → Prop) : Prop := ∀ (a : α) (t : List UInt8), P a → F ⟨B a ++ t, 0⟩ = ⟨t, 0⟩ ∧ V ⟨B a ++ t, 0⟩ = a
theorem ok_first {α : Type} {F G : Rst → Rst} (bad : ∀ {s : Rst}, s.e ≠ 0 → G s = s) {b r : List UInt8} (h : G (F ⟨b, 0⟩) = ⟨r, 0⟩) : ∃ r1, F ⟨b, 0⟩ = ⟨r1, 0⟩ := by
  rcases hF : F ⟨b, 0⟩ with ⟨r1, e1⟩
  rw [hF] at h
  by_cases he : e1 = 0
  · subst he; exact ⟨r1, rfl⟩
  · rw [bad (s := ⟨r1, e1⟩) he] at h
    cases h
    exact absurd rfl he
theorem Enc.bind {α β : Type} {F : Rst → Rst} {V : Rst → α} {G : α → Rst → Rst} {W : α → Rst → β} {B : α → List UInt8} {C : α → β → List UInt8} (h : Enc F V B) (bad : ∀ a, ∀ {s : Rst}, s.e ≠ 0 → G a s = s) (g : ∀ a, Enc (G a) (W a) (C a)) :
    Enc (fun s => G (V s) (F s)) (fun s => (V s, W (V s) (F s))) (fun p => B p.1 ++ C p.1 p.2) := by
  intro b r hb
  obtain ⟨r1, h1⟩ := ok_first (α := α) (F := F) (bad (V ⟨b, 0⟩)) hb
  have hb' : G (V ⟨b, 0⟩) (F ⟨b, 0⟩) = ⟨r, 0⟩ := hb
  rw [h1] at hb'
  have e1 := h b r1 h1
  have e2 := g _ r1 r hb'
  show b = (B (V ⟨b, 0⟩) ++ C (V ⟨b, 0⟩) (W (V ⟨b, 0⟩) (F ⟨b, 0⟩))) ++ r
  rw [h1, List.append_assoc, ← e2]
  exact e1
theorem Enc.congr {α β : Type} {F F' : Rst → Rst} {V : Rst → α} {V' : Rst → β} {B : α → List UInt8} {B' : β → List UInt8} (h : Enc F V B) (hF : ∀ s, F' s = F s) (hV : ∀ b r, F ⟨b, 0⟩ = ⟨r, 0⟩ → B' (V' ⟨b, 0⟩) = B (V ⟨b, 0⟩)) : Enc F' V' B' := by
  intro b r hb
  rw [hF] at hb
  rw [hV b r hb]
  exact h b r hb
theorem Fwd.bind {α β : Type} {F : Rst → Rst} {V : Rst → α} {G : α → Rst → Rst} {W : α → Rst → β} {B : α → List UInt8} {C : α → β → List UInt8} {P : α → Prop} {Q : α → β → Prop} (h : Fwd F V B P) (g : ∀ a, Fwd (G a) (W a) (C a) (Q a)) :
    Fwd (fun s => G (V s) (F s)) (fun s => (V s, W (V s) (F s))) (fun p => B p.1 ++ C p.1 p.2) (fun p => P p.1 ∧ Q p.1 p.2) := by
  rintro ⟨a, w⟩ t ⟨p, q⟩
  obtain ⟨h1, h2⟩ := h a (C a w ++ t) p
  obtain ⟨g1, g2⟩ := g a w t q
  dsimp only at *
  rw [List.append_assoc, h2, h1, g1, g2]
  exact ⟨rfl, rfl⟩
theorem Fwd.congr {α β : Type} {F F' : Rst → Rst} {V : Rst → α} {V' : Rst → β} {B : α → List UInt8} {B' : β → List UInt8} {P : α → Prop} {P' : β → Prop} (f : α → β) (k : β → α) (h : Fwd F V B P) (hF : ∀ s, F' s = F s) (hV : ∀ b, (F ⟨b, 0⟩).e = 0 → V' ⟨b, 0⟩ = f (V ⟨b, 0⟩))
    (hB : ∀ y, P' y → B' y = B (k y)) (hk : ∀ y, P' y → f (k y) = y) (hP : ∀ y, P' y → P (k y)) : Fwd F' V' B' P' := by
  intro y t hy
  obtain ⟨h1, h2⟩ := h (k y) t (hP y hy)
  rw [hF, hB y hy, h1, hV _ (by rw [h1]), h2, hk y hy]
  exact ⟨rfl, rfl⟩
theorem Enc.seq {α β : Type} {F G : Rst → Rst} {V : Rst → α} {W : Rst → β} {B : α → List UInt8} {C : β → List UInt8} (h : Enc F V B) (hg : Good G W) (g : Enc G W C) : Enc (fun s => G (F s)) (fun s => (V s, W (F s))) (fun p => B p.1 ++ C p.2) :=
  Enc.bind (G := fun _ => G) (W := fun _ => W) (C := fun _ => C) h (fun _ => hg.bad) (fun _ => g)
theorem Fwd.seq {α β : Type} {F G : Rst → Rst} {V : Rst → α} {W : Rst → β} {B : α → List UInt8} {C : β → List UInt8} {P : α → Prop} {Q : β → Prop} (h : Fwd F V B P) (g : Fwd G W C Q) : Fwd (fun s => G (F s)) (fun s => (V s, W (F s))) (fun p => B p.1 ++ C p.2) (fun p => P p.1 ∧ Q p.2) :=
  Fwd.bind (G := fun _ => G) (W := fun _ => W) (C := fun _ => C) (Q := fun _ => Q) h (fun _ => g)
/-! ### Numbers -/
theorem num_lt {n : Nat} (h : n < 128) : num n = [UInt8.ofNat n] := by rw [num, if_pos h]
theorem num_ge {n : Nat} (h : ¬ n < 128) : num n = UInt8.ofNat (n % 128 + 128) :: num (n / 128) := by rw [num, if_neg h]
theorem go_enc : ∀ (f k n : Nat) (b r : List UInt8), (numGo f k n ⟨b, 0⟩).1 = ⟨r, 0⟩ → ∃ m, (numGo f k n ⟨b, 0⟩).2 = n + m * 128 ^ k ∧ (0 < k → m ≠ 0) ∧ b = num m ++ r
  | 0, k, n, b, r, h => by
    have h' : (Rst.fail ⟨b, 0⟩ 2) = ⟨r, 0⟩ := h
    have := fail_e ⟨b, 0⟩ (k := 2) (by decide)
    rw [h'] at this
    exact absurd rfl this
  | f + 1, k, n, [], r, h => by
    unfold numGo at h
    rw [if_pos (by show (3 : Int) ≠ 0; decide)] at h
    cases h
  | f + 1, k, n, c :: b, r, h => by
    unfold numGo at h ⊢
    have e1 : Rst.one ⟨c :: b, 0⟩ = ⟨b, 0⟩ := rfl
    have e2 : Rst.oneV ⟨c :: b, 0⟩ = c := rfl
    rw [e1, e2, if_neg (by simp)] at h ⊢
    by_cases h1 : 128 ≤ c.toNat
    · rw [if_pos h1] at h ⊢
      obtain ⟨m, a1, a2, a3⟩ := go_enc f (k + 1) _ b r h
      have hm := a2 (by omega)
      have hc := c.toNat_lt
      refine ⟨c.toNat - 128 + 128 * m, ?_, fun _ => by omega, ?_⟩
      · rw [a1, Nat.pow_succ, Nat.add_mul, Nat.add_assoc]
        congr 2
        rw [Nat.mul_comm (128 ^ k) 128, ← Nat.mul_assoc, Nat.mul_comm m 128]
      · rw [num_ge (by omega), a3]
        have q1 : (c.toNat - 128 + 128 * m) % 128 + 128 = c.toNat := by omega
        have q2 : (c.toNat - 128 + 128 * m) / 128 = m := by omega
        rw [q1, q2, UInt8.ofNat_toNat]
        rfl
    · rw [if_neg h1] at h ⊢
      by_cases h2 : c.toNat = 0 ∧ 0 < k
      · rw [if_pos h2] at h
        have := fail_e ⟨b, 0⟩ (k := 4) (by decide)
        rw [show (Rst.fail ⟨b, 0⟩ 4) = ⟨r, 0⟩ from h] at this
        exact absurd rfl this
      · rw [if_neg h2] at h ⊢
        by_cases h3 : 1099511627776 < n + c.toNat * 128 ^ k
        · rw [if_pos h3] at h
          have := fail_e ⟨b, 0⟩ (k := 2) (by decide)
          rw [show (Rst.fail ⟨b, 0⟩ 2) = ⟨r, 0⟩ from h] at this
          exact absurd rfl this
        · rw [if_neg h3] at h ⊢
          cases h
          refine ⟨c.toNat, rfl, fun hk hz => h2 ⟨hz, hk⟩, ?_⟩
          rw [num_lt (by omega), UInt8.ofNat_toNat]
          rfl
theorem go_fwd : ∀ (f k n m : Nat) (t : List UInt8), m < 128 ^ f → (0 < k → m ≠ 0) → (f = 0 → 0 < k) → n + m * 128 ^ k ≤ 1099511627776 → numGo f k n ⟨num m ++ t, 0⟩ = (⟨t, 0⟩, n + m * 128 ^ k)
  | 0, k, n, m, t, h1, h2, h3, h4 => by
    have : m = 0 := by simpa using h1
    exact absurd this (h2 (h3 rfl))
  | f + 1, k, n, m, t, h1, h2, h3, h4 => by
    unfold numGo
    by_cases hm : m < 128
    · rw [num_lt hm]
      have e1 : Rst.one ⟨[UInt8.ofNat m] ++ t, 0⟩ = ⟨t, 0⟩ := rfl
      have e2 : Rst.oneV ⟨[UInt8.ofNat m] ++ t, 0⟩ = UInt8.ofNat m := rfl
      have e3 : (UInt8.ofNat m).toNat = m := by rw [UInt8.toNat_ofNat']; omega
      rw [e1, e2, e3, if_neg (by simp), if_neg (by omega), if_neg (fun hz => h2 hz.2 hz.1), if_neg (by omega)]
    · rw [num_ge hm]
      have e1 : Rst.one ⟨UInt8.ofNat (m % 128 + 128) :: num (m / 128) ++ t, 0⟩ = ⟨num (m / 128) ++ t, 0⟩ := rfl
      have e2 : Rst.oneV ⟨UInt8.ofNat (m % 128 + 128) :: num (m / 128) ++ t, 0⟩ = UInt8.ofNat (m % 128 + 128) := rfl
      have e3 : (UInt8.ofNat (m % 128 + 128)).toNat = m % 128 + 128 := by rw [UInt8.toNat_ofNat']; omega
      have e4 : m % 128 + 128 - 128 = m % 128 := by omega
      have e5 : n + m % 128 * 128 ^ k + m / 128 * 128 ^ (k + 1) = n + m * 128 ^ k := by
        rw [Nat.pow_succ, Nat.add_assoc, Nat.mul_comm (128 ^ k) 128, ← Nat.mul_assoc, ← Nat.add_mul, show m % 128 + m / 128 * 128 = m by omega]
      have e6 : m / 128 < 128 ^ f := by
        rw [Nat.div_lt_iff_lt_mul (by decide)]
        rw [Nat.pow_succ] at h1
        exact h1
      rw [e1, e2, e3, e4, if_neg (by simp), if_pos (by omega), go_fwd f (k + 1) _ _ t e6 (fun _ => by omega) (fun _ => by omega) (by omega), e5]
theorem enc_num : Enc Rst.num Rst.numV (fun n => num n.toNat) := by
  intro b r h
  obtain ⟨m, h1, -, h3⟩ := go_enc 6 0 0 b r h
  have : Rst.numV ⟨b, 0⟩ = (m : Int) := by
    unfold Rst.numV
    rw [h1]; simp
  rw [this]
  exact h3
def P40 (n : Int) : Prop := 0 ≤ n ∧ n ≤ 1099511627776
theorem fwd_num : Fwd Rst.num Rst.numV (fun n => num n.toNat) P40 := by
  rintro n t ⟨h1, h2⟩
  have := go_fwd 6 0 0 n.toNat t (by
    have : (128 : Nat) ^ 6 = 4398046511104 := by decide
    omega) (fun h => absurd h (by decide)) (fun h => absurd h (by decide)) (by simp; omega)
  unfold Rst.num Rst.numV
  rw [this]
  refine ⟨rfl, ?_⟩
  simp
  omega
theorem enc_few : Enc Rst.few Rst.fewV (fun n => num n.toNat) := by
  refine (Enc.bind (G := fun (v : Int) s => if 8 < v then s.fail 2 else s) (W := fun v _ => v) (C := fun _ _ => []) enc_num (fun v {s} hs => ?_) (fun v b r h => ?_)).congr (fun s => rfl) (fun b r h => ?_)
  · split
    · exact fail_bad hs 2
    · rfl
  · dsimp only at h
    split at h
    · have := fail_e ⟨b, 0⟩ (k := 2) (by decide)
      rw [h] at this
      exact absurd rfl this
    · cases h; rfl
  · have : Rst.fewV ⟨b, 0⟩ = Rst.numV ⟨b, 0⟩ := if_pos (by rw [show Rst.few ⟨b, 0⟩ = ⟨r, 0⟩ from h])
    rw [this]
    simp
def P8 (n : Int) : Prop := 0 ≤ n ∧ n ≤ 8
theorem fwd_few : Fwd Rst.few Rst.fewV (fun n => num n.toNat) P8 := by
  rintro n t ⟨h1, h2⟩
  obtain ⟨a1, a2⟩ := fwd_num n t ⟨h1, by omega⟩
  have e : Rst.few ⟨num n.toNat ++ t, 0⟩ = ⟨t, 0⟩ := by
    unfold Rst.few
    rw [a2, if_neg (by omega), a1]
  refine ⟨e, ?_⟩
  unfold Rst.fewV
  rw [e, if_pos rfl, a2]
theorem enc_bytes : ∀ n : Nat, Enc (Rst.skip n) (Rst.bytes n) (fun l => l)
  | 0, b, r, h => by cases h; rfl
  | n + 1, [], r, h => by
    have h1 : Rst.skip n ⟨[], 3⟩ = ⟨r, 0⟩ := h
    rw [(good_skip n).bad (by show (3 : Int) ≠ 0; decide)] at h1
    cases h1
  | n + 1, c :: b, r, h => by
    have h1 : Rst.skip n ⟨b, 0⟩ = ⟨r, 0⟩ := h
    show c :: b = (c :: Rst.bytes n ⟨b, 0⟩) ++ r
    rw [List.cons_append, ← enc_bytes n b r h1]
theorem fwd_bytes : ∀ n : Nat, Fwd (Rst.skip n) (Rst.bytes n) (fun l => l) (fun l => l.length = n)
  | 0, l, t, h => by
    obtain rfl := List.eq_nil_of_length_eq_zero h
    exact ⟨rfl, rfl⟩
  | n + 1, [], t, h => by cases h
  | n + 1, c :: l, t, h => by
    obtain ⟨a1, a2⟩ := fwd_bytes n l t (by simpa using h)
    show Rst.skip n ⟨l ++ t, 0⟩ = ⟨t, 0⟩ ∧ c :: Rst.bytes n ⟨l ++ t, 0⟩ = c :: l
    rw [a1, a2]
    exact ⟨rfl, rfl⟩
theorem bytes_len : ∀ (n : Nat) (t : Rst), (Rst.bytes n t).length = n
  | 0, t => rfl
  | n + 1, t => by simp [Rst.bytes, bytes_len n]
def txtB (s : ByteArray) : List UInt8 := num s.size ++ s.data.toList
def Pt (s : ByteArray) : Prop := s.size ≤ 8
theorem enc_text : Enc Rst.text Rst.textV txtB := by
  refine (Enc.bind (G := fun (v : Int) => Rst.skip v.toNat) (W := fun v => Rst.bytes v.toNat) (C := fun _ l => l) enc_few (fun v => (good_skip _).bad) (fun v => enc_bytes _)).congr (fun s => rfl) (fun b r h => ?_)
  show num (Rst.textV ⟨b, 0⟩).size ++ (Rst.bytes _ _).toArray.toList = num _ ++ Rst.bytes _ _
  have : (Rst.textV ⟨b, 0⟩).size = (Rst.fewV ⟨b, 0⟩).toNat := by
    show (Rst.bytes _ _).toArray.size = _
    rw [List.size_toArray, bytes_len]
  rw [this]
theorem fwd_text : Fwd Rst.text Rst.textV txtB Pt := by
  refine (Fwd.bind (G := fun (v : Int) => Rst.skip v.toNat) (W := fun v => Rst.bytes v.toNat) (C := fun _ l => l) (Q := fun v l => l.length = v.toNat) fwd_few (fun v => fwd_bytes _)).congr (fun p => ⟨p.2.toArray⟩) (fun s => ((s.size : Int), s.data.toList)) (fun s => rfl) (fun b _ => rfl)
    (fun s hs => ?_) (fun s hs => ?_) (fun s hs => ?_)
  · simp [txtB]
  · cases s; simp
  · refine ⟨⟨by simp, ?_⟩, ?_⟩
    · simp only [Pt] at hs
      show (s.size : Int) ≤ 8
      omega
    · simp [data_len]
theorem enc_truth : Enc Rst.truth Rst.truthV (fun b => [if b then 1 else 0]) := by
  intro b r h
  rcases b with _ | ⟨c, b⟩
  · cases h
  · unfold Rst.truth at h
    have e1 : Rst.one ⟨c :: b, 0⟩ = ⟨b, 0⟩ := rfl
    have e2 : Rst.oneV ⟨c :: b, 0⟩ = c := rfl
    rw [e1, e2] at h
    split at h
    · have := fail_e (Rst.mk b 0) (k := 4) (by decide)
      rw [h] at this
      exact absurd rfl this
    · rename_i hc
      cases h
      show c :: r = [if decide (c.toNat = 1) = true then 1 else 0] ++ r
      by_cases h1 : c.toNat = 1
      · rw [if_pos (by simpa using h1)]
        have : c = 1 := by apply UInt8.toNat_inj.1; simpa using h1
        rw [this]; rfl
      · rw [if_neg (by simpa using h1)]
        have : c = 0 := by apply UInt8.toNat_inj.1; simp; omega
        rw [this]; rfl
theorem fwd_truth : Fwd Rst.truth Rst.truthV (fun b => [if b then 1 else 0]) (fun _ => True) := by
  rintro b t -
  cases b <;> exact ⟨rfl, rfl⟩
theorem enc_tag (c : Nat) (hc : c < 256) : Enc (fun s => s.tag c) (fun _ => ()) (fun _ => [UInt8.ofNat c]) := by
  intro b r h
  dsimp only at h
  unfold Rst.tag at h
  split at h
  · rename_i h1
    rcases b with _ | ⟨x, b⟩
    · cases h
    · cases h
      have : Rst.oneV ⟨x :: r, 0⟩ = x := rfl
      rw [this] at h1
      show x :: r = [UInt8.ofNat c] ++ r
      rw [← h1, UInt8.ofNat_toNat]; rfl
  · have := fail_e (Rst.one ⟨b, 0⟩) (k := 4) (by decide)
    rw [h] at this
    exact absurd rfl this
theorem fwd_tag (c : Nat) (hc : c < 256) : Fwd (fun s => s.tag c) (fun _ => ()) (fun _ => [UInt8.ofNat c]) (fun _ => True) := by
  rintro ⟨⟩ t -
  refine ⟨?_, rfl⟩
  show Rst.tag ⟨[UInt8.ofNat c] ++ t, 0⟩ c = ⟨t, 0⟩
  unfold Rst.tag
  have : Rst.oneV ⟨[UInt8.ofNat c] ++ t, 0⟩ = UInt8.ofNat c := rfl
  rw [this, UInt8.toNat_ofNat', if_pos (by omega)]
  rfl
end Go.Proofs.Ytalkadbpdaoifaa.AX
namespace Go.Proofs.Ytalkadbpdaoifaa.AX
open Go Go.RowKit
set_option linter.unusedSimpArgs false
set_option linter.unusedVariables false
theorem rds_nbad (n : Nat) {s : Rst} (h : s.e ≠ 0) : Rst.rds n s = s := rds_stop n h
theorem wrs_nbad (n : Nat) {s : Rst} (h : s.e ≠ 0) : Rst.wrs n s = s := (good_wrs n).bad h
theorem enc_rd : Enc Rst.rd Rst.rdV rdB :=
  (enc_text.seq (good_num.seq good_num) (enc_num.seq good_num enc_num)).congr (fun _ => rfl) (fun b r _ => by simp [rdB, txtB, nums, Rst.rdV])
theorem enc_wr : Enc Rst.wr Rst.wrV wrB :=
  (enc_text.seq good_text enc_text).congr (fun _ => rfl) (fun b r _ => by simp [wrB, txtB, nums, Rst.wrV])
def Prd (r : Rd) : Prop := Pt r.key ∧ P40 r.tm ∧ P40 r.ac
def Pwr (w : Wr) : Prop := Pt w.key ∧ Pt w.val
theorem fwd_rd : Fwd Rst.rd Rst.rdV rdB Prd :=
  (fwd_text.seq (fwd_num.seq fwd_num)).congr (fun p => ⟨p.1, p.2.1, p.2.2⟩) (fun r => (r.key, r.tm, r.ac)) (fun _ => rfl) (fun _ _ => rfl) (fun r _ => by simp [rdB, txtB, nums]) (fun r _ => rfl) (fun r h => h)
theorem fwd_wr : Fwd Rst.wr Rst.wrV wrB Pwr :=
  (fwd_text.seq fwd_text).congr (fun p => ⟨p.1, p.2⟩) (fun r => (r.key, r.val)) (fun _ => rfl) (fun _ _ => rfl) (fun r _ => by simp [wrB, txtB, nums]) (fun r _ => rfl) (fun r h => h)
theorem rds_eq (n : Nat) (s : Rst) : Rst.rds (n + 1) s = Rst.rds n s.rd := by
  show (if s.e = 0 then _ else _) = _
  split
  · rfl
  · rename_i h
    rw [good_rd.bad h, rds_nbad n h]
theorem wrs_eq (n : Nat) (s : Rst) : Rst.wrs (n + 1) s = Rst.wrs n s.wr := by
  show (if s.e = 0 then _ else _) = _
  split
  · rfl
  · rename_i h
    rw [good_wr.bad h, wrs_nbad n h]
theorem rdsV_eq (n : Nat) (b : List UInt8) : Rst.rdsV (n + 1) ⟨b, 0⟩ = Rst.rdV ⟨b, 0⟩ :: Rst.rdsV n (Rst.rd ⟨b, 0⟩) := if_pos rfl
theorem wrsV_eq (n : Nat) (b : List UInt8) : Rst.wrsV (n + 1) ⟨b, 0⟩ = Rst.wrV ⟨b, 0⟩ :: Rst.wrsV n (Rst.wr ⟨b, 0⟩) := if_pos rfl
theorem enc_rds : ∀ n : Nat, Enc (Rst.rds n) (Rst.rdsV n) (fun l => l.flatMap rdB)
  | 0 => fun b r h => by cases h; rfl
  | n + 1 => (enc_rd.seq (good_rds n) (enc_rds n)).congr (rds_eq n) (fun b r _ => by rw [rdsV_eq]; simp)
theorem enc_wrs : ∀ n : Nat, Enc (Rst.wrs n) (Rst.wrsV n) (fun l => l.flatMap wrB)
  | 0 => fun b r h => by cases h; rfl
  | n + 1 => (enc_wr.seq (good_wrs n) (enc_wrs n)).congr (wrs_eq n) (fun b r _ => by rw [wrsV_eq]; simp)
theorem fwd_rds : ∀ n : Nat, Fwd (Rst.rds n) (Rst.rdsV n) (fun l => l.flatMap rdB) (fun l => l.length = n ∧ ∀ r ∈ l, Prd r)
  | 0, l, t, ⟨h, _⟩ => by
    obtain rfl := List.eq_nil_of_length_eq_zero h
    exact ⟨rfl, rfl⟩
  | n + 1, [], t, ⟨h, _⟩ => by cases h
  | n + 1, x :: l, t, ⟨h, hl⟩ => by
    obtain ⟨a1, a2⟩ := fwd_rd x (l.flatMap rdB ++ t) (hl x (by simp))
    obtain ⟨b1, b2⟩ := fwd_rds n l t ⟨by simpa using h, fun r hr => hl r (by simp [hr])⟩
    show Rst.rds (n + 1) ⟨(x :: l).flatMap rdB ++ t, 0⟩ = _ ∧ Rst.rdsV (n + 1) ⟨(x :: l).flatMap rdB ++ t, 0⟩ = _
    rw [rds_eq, rdsV_eq, List.flatMap_cons, List.append_assoc, a1, a2, b1, b2]
    exact ⟨rfl, rfl⟩
theorem fwd_wrs : ∀ n : Nat, Fwd (Rst.wrs n) (Rst.wrsV n) (fun l => l.flatMap wrB) (fun l => l.length = n ∧ ∀ r ∈ l, Pwr r)
  | 0, l, t, ⟨h, _⟩ => by
    obtain rfl := List.eq_nil_of_length_eq_zero h
    exact ⟨rfl, rfl⟩
  | n + 1, [], t, ⟨h, _⟩ => by cases h
  | n + 1, x :: l, t, ⟨h, hl⟩ => by
    obtain ⟨a1, a2⟩ := fwd_wr x (l.flatMap wrB ++ t) (hl x (by simp))
    obtain ⟨b1, b2⟩ := fwd_wrs n l t ⟨by simpa using h, fun r hr => hl r (by simp [hr])⟩
    show Rst.wrs (n + 1) ⟨(x :: l).flatMap wrB ++ t, 0⟩ = _ ∧ Rst.wrsV (n + 1) ⟨(x :: l).flatMap wrB ++ t, 0⟩ = _
    rw [wrs_eq, wrsV_eq, List.flatMap_cons, List.append_assoc, a1, a2, b1, b2]
    exact ⟨rfl, rfl⟩
theorem rdsV_ln : ∀ (n : Nat) (s : Rst), (Rst.rds n s).e = 0 → (Rst.rdsV n s).length = n
  | 0, s, _ => rfl
  | n + 1, s, h => by
    rw [rds_eq] at h
    have h1 : s.rd.e = 0 := back (fun h => rds_nbad n h) h
    have h2 : s.e = 0 := back (fun h => good_rd.bad h) h1
    show (if s.e = 0 then _ else _ : List Rd).length = _
    rw [if_pos h2, List.length_cons, rdsV_ln n _ h]
theorem wrsV_ln : ∀ (n : Nat) (s : Rst), (Rst.wrs n s).e = 0 → (Rst.wrsV n s).length = n
  | 0, s, _ => rfl
  | n + 1, s, h => by
    rw [wrs_eq] at h
    have h1 : s.wr.e = 0 := back (fun h => wrs_nbad n h) h
    have h2 : s.e = 0 := back (fun h => good_wr.bad h) h1
    show (if s.e = 0 then _ else _ : List Wr).length = _
    rw [if_pos h2, List.length_cons, wrsV_ln n _ h]
def rdsB (l : List Rd) : List UInt8 := num l.length ++ l.flatMap rdB
def wrsB (l : List Wr) : List UInt8 := num l.length ++ l.flatMap wrB
theorem enc_rdsS : Enc Rst.rdsS Rst.rdsL rdsB := by
  refine (Enc.bind (G := fun (v : Int) => Rst.rds v.toNat) (W := fun v => Rst.rdsV v.toNat) (C := fun _ l => l.flatMap rdB) enc_few (fun v => rds_nbad _) (fun v => enc_rds _)).congr (fun _ => rfl) (fun b r h => ?_)
  have : (Rst.rdsL ⟨b, 0⟩).length = (Rst.fewV ⟨b, 0⟩).toNat := rdsV_ln _ _ (by rw [show Rst.rds _ _ = ⟨r, 0⟩ from h])
  show num _ ++ _ = num _ ++ _
  rw [this]; rfl
theorem enc_wrsS : Enc Rst.wrsS Rst.wrsL wrsB := by
  refine (Enc.bind (G := fun (v : Int) => Rst.wrs v.toNat) (W := fun v => Rst.wrsV v.toNat) (C := fun _ l => l.flatMap wrB) enc_few (fun v => wrs_nbad _) (fun v => enc_wrs _)).congr (fun _ => rfl) (fun b r h => ?_)
  have : (Rst.wrsL ⟨b, 0⟩).length = (Rst.fewV ⟨b, 0⟩).toNat := wrsV_ln _ _ (by rw [show Rst.wrs _ _ = ⟨r, 0⟩ from h])
  show num _ ++ _ = num _ ++ _
  rw [this]; rfl
def Prds (l : List Rd) : Prop := l.length ≤ 8 ∧ ∀ r ∈ l, Prd r
def Pwrs (l : List Wr) : Prop := l.length ≤ 8 ∧ ∀ r ∈ l, Pwr r
theorem fwd_rdsS : Fwd Rst.rdsS Rst.rdsL rdsB Prds :=
  (Fwd.bind (G := fun (v : Int) => Rst.rds v.toNat) (W := fun v => Rst.rdsV v.toNat) (C := fun _ l => l.flatMap rdB) (Q := fun v l => l.length = v.toNat ∧ ∀ r ∈ l, Prd r) fwd_few (fun v => fwd_rds _)).congr (fun p => p.2) (fun l => ((l.length : Int), l)) (fun _ => rfl) (fun _ _ => rfl)
    (fun l _ => by simp [rdsB]) (fun l _ => rfl) (fun l h => ⟨⟨by show (0 : Int) ≤ l.length; omega, by have := h.1; show (l.length : Int) ≤ 8; omega⟩, by simp, h.2⟩)
theorem fwd_wrsS : Fwd Rst.wrsS Rst.wrsL wrsB Pwrs :=
  (Fwd.bind (G := fun (v : Int) => Rst.wrs v.toNat) (W := fun v => Rst.wrsV v.toNat) (C := fun _ l => l.flatMap wrB) (Q := fun v l => l.length = v.toNat ∧ ∀ r ∈ l, Pwr r) fwd_few (fun v => fwd_wrs _)).congr (fun p => p.2) (fun l => ((l.length : Int), l)) (fun _ => rfl) (fun _ _ => rfl)
    (fun l _ => by simp [wrsB]) (fun l _ => rfl) (fun l h => ⟨⟨by show (0 : Int) ≤ l.length; omega, by have := h.1; show (l.length : Int) ≤ 8; omega⟩, by simp, h.2⟩)
theorem good_fin1 : Good (fun s => (Rst.rdsS s).wrsS.truth) (fun s => (s.rdsL, s.rdsS.wrsL, s.rdsS.wrsS.truthV)) := good_rdsS.seq (good_wrsS.seq good_truth)
def cmdT (c : Cmd) : List UInt8 := nums [c.kind.toNat, c.cl.toNat, c.nm.toNat, c.tm.toNat, c.ac.toNat, c.sh.toNat] ++ (rdsB c.rs ++ (wrsB c.ws ++ [if c.cm then 1 else 0]))
theorem cmdB_T (c : Cmd) : cmdB c = 1 :: cmdT c := by simp [cmdB, cmdT, rdsB, wrsB, nums]
theorem enc_cmd : Enc Rst.cmd Rst.cmdV cmdT :=
  (enc_num.seq (good_num.seq (good_num.seq (good_num.seq (good_num.seq (good_num.seq good_fin1))))) (enc_num.seq (good_num.seq (good_num.seq (good_num.seq (good_num.seq good_fin1)))) (enc_num.seq (good_num.seq (good_num.seq (good_num.seq good_fin1))) (enc_num.seq (good_num.seq (good_num.seq good_fin1)) (enc_num.seq (good_num.seq good_fin1) (enc_num.seq good_fin1
    (enc_rdsS.seq (good_wrsS.seq good_truth) (enc_wrsS.seq good_truth enc_truth)))))))).congr (fun _ => rfl) (fun b r _ => by simp [cmdT, nums, Rst.cmdV, Rst.nums]; rfl)
structure Pcmd (c : Cmd) : Prop where
  kind : P40 c.kind
  cl : P40 c.cl
  nm : P40 c.nm
  tm : P40 c.tm
  ac : P40 c.ac
  sh : P40 c.sh
  rs : Prds c.rs
  ws : Pwrs c.ws
theorem fwd_cmd : Fwd Rst.cmd Rst.cmdV cmdT Pcmd :=
  (fwd_num.seq (fwd_num.seq (fwd_num.seq (fwd_num.seq (fwd_num.seq (fwd_num.seq (fwd_rdsS.seq (fwd_wrsS.seq fwd_truth)))))))).congr
    (fun ⟨a, b, c, d, e, f, g, h, i⟩ => ⟨a, b, c, d, e, f, g, h, i⟩) (fun c => (c.kind, c.cl, c.nm, c.tm, c.ac, c.sh, c.rs, c.ws, c.cm)) (fun _ => rfl) (fun _ _ => rfl) (fun c _ => by simp [cmdT, nums]) (fun c _ => rfl) (fun c ⟨a, b, d, e, f, g, h, i⟩ => ⟨a, b, d, e, f, g, h, i, trivial⟩)
def recT' (r : Rec) : List UInt8 := nums [r.ir.toNat, r.is.toNat, r.st.toNat, r.pn.toNat, r.pr.toNat, r.bn.toNat, r.br.toNat, r.sq.toNat] ++ (nums [r.d0.toNat, r.d1.toNat, r.d2.toNat, r.d3.toNat, r.d4.toNat, r.d5.toNat, r.d6.toNat] ++ ([if r.kept then 1 else 0] ++ (1 :: cmdT r.c)))
theorem recB_T (r : Rec) : recB r = 2 :: recT' r := by simp [recB, recT', cmdB_T]
theorem good_t : Good (fun s => (Rst.truth s).tag 1 |>.cmd) (fun s => (s.truthV, (), (s.truth.tag 1).cmdV)) := good_truth.seq ((good_tag 1).seq good_cmd)
theorem enc_t : Enc (fun s => (Rst.truth s).tag 1 |>.cmd) (fun s => (s.truthV, (), (s.truth.tag 1).cmdV)) (fun p => [if p.1 then 1 else 0] ++ ([UInt8.ofNat 1] ++ cmdT p.2.2)) := enc_truth.seq ((good_tag 1).seq good_cmd) ((enc_tag 1 (by decide)).seq good_cmd enc_cmd)
theorem fwd_t : Fwd (fun s => (Rst.truth s).tag 1 |>.cmd) (fun s => (s.truthV, (), (s.truth.tag 1).cmdV)) (fun p => [if p.1 then 1 else 0] ++ ([UInt8.ofNat 1] ++ cmdT p.2.2)) (fun p => True ∧ True ∧ Pcmd p.2.2) := fwd_truth.seq ((fwd_tag 1 (by decide)).seq fwd_cmd)
/-- n numbers in a row. -/
def numsV : Nat → Rst → List Int
  | 0, _ => []
  | n + 1, s => s.numV :: numsV n s.num
theorem good_nums : ∀ n : Nat, Good (Rst.nums n) (numsV n)
  | 0 => good_id _
  | n + 1 => (good_num.seq (good_nums n)).congr (fun p => p.1 :: p.2) (fun _ => rfl) (fun _ _ => rfl)
theorem enc_nums : ∀ n : Nat, Enc (Rst.nums n) (numsV n) (fun l => nums (l.map Int.toNat))
  | 0 => fun b r h => by cases h; rfl
  | n + 1 => (enc_num.seq (good_nums n) (enc_nums n)).congr (fun _ => rfl) (fun b r _ => by simp [numsV, nums])
theorem fwd_nums : ∀ n : Nat, Fwd (Rst.nums n) (numsV n) (fun l => nums (l.map Int.toNat)) (fun l => l.length = n ∧ ∀ x ∈ l, P40 x)
  | 0, l, t, ⟨h, _⟩ => by
    obtain rfl := List.eq_nil_of_length_eq_zero h
    exact ⟨rfl, rfl⟩
  | n + 1, [], t, ⟨h, _⟩ => by cases h
  | n + 1, x :: l, t, ⟨h, hl⟩ => by
    obtain ⟨a1, a2⟩ := fwd_num x (nums (l.map Int.toNat) ++ t) (hl x (by simp))
    obtain ⟨b1, b2⟩ := fwd_nums n l t ⟨by simpa using h, fun r hr => hl r (by simp [hr])⟩
    show Rst.nums n (Rst.num ⟨nums ((x :: l).map Int.toNat) ++ t, 0⟩) = _ ∧ Rst.numV ⟨nums ((x :: l).map Int.toNat) ++ t, 0⟩ :: numsV n (Rst.num ⟨nums ((x :: l).map Int.toNat) ++ t, 0⟩) = _
    rw [List.map_cons, nums, List.append_assoc, a1, a2, b1, b2]
    exact ⟨rfl, rfl⟩
def recOf : List Int × Bool × Unit × Cmd → Rec
  | ([a0, a1, a2, a3, a4, a5, a6, a7, a8, a9, a10, a11, a12, a13, a14], t, _, c) => ⟨a0, a1, a2, a3, a4, a5, a6, c, a7, a8, a9, a10, a11, a12, a13, a14, t⟩
  | _ => .zero
theorem enc_rcd : Enc Rst.rcd Rst.recV recT' :=
  ((enc_nums 15).seq good_t enc_t).congr (fun _ => rfl) (fun b r _ => by simp [recT', nums, Rst.recV, numsV, Rst.nums, Rst.recT]; rfl)
structure Prec (r : Rec) : Prop where
  ns : ∀ x ∈ [r.ir, r.is, r.st, r.pn, r.pr, r.bn, r.br, r.sq, r.d0, r.d1, r.d2, r.d3, r.d4, r.d5, r.d6], P40 x
  c : Pcmd r.c
theorem fwd_rcd : Fwd Rst.rcd Rst.recV recT' Prec :=
  ((fwd_nums 15).seq fwd_t).congr recOf (fun r => ([r.ir, r.is, r.st, r.pn, r.pr, r.bn, r.br, r.sq, r.d0, r.d1, r.d2, r.d3, r.d4, r.d5, r.d6], r.kept, (), r.c)) (fun _ => rfl) (fun _ _ => rfl) (fun r _ => by simp [recT', nums]) (fun r _ => rfl)
    (fun r h => ⟨⟨rfl, h.ns⟩, trivial, trivial, h.c⟩)
def msgT' (m : Msg) : List UInt8 := nums [m.kind.toNat, m.fr.toNat, m.to.toNat, m.bn.toNat, m.br.toNat] ++ (2 :: recT' m.r)
theorem msgB_T (m : Msg) : msgB m = 3 :: msgT' m := by simp [msgB, msgT', recB_T]
def msgOf : List Int × Unit × Rec → Msg
  | ([a0, a1, a2, a3, a4], _, r) => ⟨a0, a1, a2, a3, a4, r⟩
  | (_, _, r) => ⟨0, 0, 0, 0, 0, r⟩
theorem enc_msg : Enc Rst.msg Rst.msgV msgT' :=
  ((enc_nums 5).seq ((good_tag 2).seq good_rcd) ((enc_tag 2 (by decide)).seq good_rcd enc_rcd)).congr (fun _ => rfl) (fun b r _ => by simp [msgT', nums, Rst.msgV, numsV, Rst.nums, Rst.msgT])
structure Pmsg (m : Msg) : Prop where
  ns : ∀ x ∈ [m.kind, m.fr, m.to, m.bn, m.br], P40 x
  r : Prec m.r
theorem fwd_msg : Fwd Rst.msg Rst.msgV msgT' Pmsg :=
  ((fwd_nums 5).seq ((fwd_tag 2 (by decide)).seq fwd_rcd)).congr msgOf (fun m => ([m.kind, m.fr, m.to, m.bn, m.br], (), m.r)) (fun _ => rfl) (fun _ _ => rfl) (fun r _ => by simp [msgT', nums]) (fun r _ => rfl)
    (fun r h => ⟨⟨rfl, h.ns⟩, trivial, h.r⟩)
end Go.Proofs.Ytalkadbpdaoifaa.AX
