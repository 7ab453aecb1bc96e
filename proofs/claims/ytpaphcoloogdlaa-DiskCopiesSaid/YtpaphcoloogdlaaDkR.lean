/- The document's disk: its value, and its methods. -/
import Derived.Test.YtpaphcoloogdlaaDkX
import Derived.Test.YtpaphcoloogdlaaPDiskPlaysx2
import Derived.Test.YtpaphcoloogdlaaKit2
namespace Go.Proofs.Ytpaphcoloogdlaa.Dk
open Go.RowKit Go.Proofs.YtpaphcoloogdlaaW.PrintWords Go.Proofs.YtpaphcoloogdlaaW.PrintLast Go.Proofs.YtpaphcoloogdlaaW.PrintMore Go.Proofs.Ytpaphcoloogdlaa.Kit Go.Proofs.Ytpaphcoloogdlaa.PDiskPlays
set_option linter.unusedVariables false
set_option linter.unusedSimpArgs false
structure RowX (X : Nat → Prop) (w : World) (A : Option Addr) (c : Nat) (xs : List Int) : Prop where
  any : AnyRow w A c xs
  away : Away X A
theorem AnyRow.keep {w w1 : World} {A : Option Addr} {c : Nat} {b : List Int} (h : AnyRow w A c b) (hk : ∀ ad, A = some ad → w1.heap[ad.block]? = w.heap[ad.block]?) : AnyRow w1 A c b :=
  ⟨h.1, C_same h.2.1 hk, fun ad e => by obtain ⟨cs, hc⟩ := h.2.2 ad e; exact ⟨cs, (hk ad e).trans hc⟩⟩
theorem RowX.below {X : Nat → Prop} {w w1 : World} {A : Option Addr} {c : Nat} {b : List Int} (h : RowX X w A c b) (hb : Below w.heap.size w w1) : RowX X w1 A c b := ⟨h.any.below hb, h.away⟩
theorem RowX.grown {X : Nat → Prop} {w w1 : World} {g : Nat} {A : Option Addr} {c : Nat} {b : List Int} (h : RowX X w A c b) (hg : w.grownBy w1 (some g)) (hX : X g) : RowX X w1 A c b :=
  ⟨h.any.keep fun ad e => by
    obtain ⟨cs, hb⟩ := h.any.2.2 ad e
    exact hg.block _ (blk_lt hb) fun e2 => by injection e2 with e2; exact h.away ad e (e2 ▸ hX), h.away⟩
theorem RowX.disk {X : Nat → Prop} {w w1 : World} {p t : Nat} {cs : Array Value} {A : Option Addr} {c : Nat} {b : List Int} (h : RowX X w A c b) (hg : w.grownBy w1 (some p)) (hp : w.heap[p]? = some (.cells cs t (0, 0))) (ht : t ≠ 5) : RowX X w1 A c b :=
  ⟨h.any.keep fun ad e => by
    obtain ⟨cs', hb⟩ := h.any.2.2 ad e
    refine hg.block _ (blk_lt hb) fun e2 => ?_
    injection e2 with e2
    rw [e2, hp] at hb
    injection hb with hb
    injection hb with _ e5
    exact ht e5, h.away⟩
theorem RowX.nil (X : Nat → Prop) (w : World) : RowX X w none 0 [] := ⟨⟨Nat.le_refl _, Kd.C_nil _ _, fun ad e => by cases e⟩, fun ad e => by cases e⟩
theorem RowX.fresh {X Y : Nat → Prop} {w : World} {A : Option Addr} {c : Nat} {b : List Int} (h : RowX Y w A c b) (hX : ∀ k, X k → w.heap.size ≤ k) : RowX X w A c b :=
  ⟨h.any, fun ad e hx => by
    obtain ⟨cs, hc⟩ := h.any.2.2 ad e
    have := blk_lt hc
    have := hX _ hx
    omega⟩
theorem RowX.imp {X Y : Nat → Prop} {w : World} {A : Option Addr} {c : Nat} {b : List Int} (h : RowX Y w A c b) (hX : ∀ k, X k → Y k) : RowX X w A c b := ⟨h.any, fun ad e hx => h.away ad e (hX _ hx)⟩
/-- A row of the call's own. -/
theorem own_row {X : Nat → Prop} {w : World} {base : Nat} {ok : Nat → Prop} {v : Value} {xs : List Int} (h : Kd.R (Kd.int .u8) 5 w base ok v xs) (hX : ∀ k, X k → k < base) : ∃ A c, v = .slice A xs.length c ∧ RowX X w A c xs := by
  obtain ⟨A, c, e, hl, hC⟩ := Kd.R_reads h
  have ho := Kd.own_of_R h
  refine ⟨A, c, e, ⟨hl, hC, fun ad ea => ?_⟩, fun ad ea hx => ?_⟩
  · subst ea
    rcases ho.2 with ⟨rfl, _⟩ | ⟨g, cap, cur, rfl, hg, hh, _⟩
    · cases e
    · injection e with e1
      injection e1 with e1
      subst e1
      exact ⟨cur, hh⟩
  · subst ea
    rcases ho.2 with ⟨rfl, _⟩ | ⟨g, cap, cur, rfl, hg, hh, _⟩
    · cases e
    · injection e with e1
      injection e1 with e1
      subst e1
      have := hX _ hx
      simp at this
      omega
/-- The document's disk: safe bytes, loose bytes, size. -/
def RfX (X : Nat → Prop) (w : World) (v : Value) (S L : List Int) (z : Nat) : Prop :=
  ∃ A c A' c', v = .agg #[.slice A S.length c, .slice A' L.length c', .int .i64 (z : Int)] ∧ RowX X w A c S ∧ RowX X w A' c' L ∧ S.length + L.length ≤ z ∧ z ≤ 1048576
theorem RfX.below {X : Nat → Prop} {w w1 : World} {v : Value} {S L : List Int} {z : Nat} (h : RfX X w v S L z) (hb : Below w.heap.size w w1) : RfX X w1 v S L z := by
  obtain ⟨A, c, A', c', e, h1, h2, h3⟩ := h
  exact ⟨A, c, A', c', e, h1.below hb, h2.below hb, h3⟩
theorem RfX.grown {X : Nat → Prop} {w w1 : World} {g : Nat} {v : Value} {S L : List Int} {z : Nat} (h : RfX X w v S L z) (hg : w.grownBy w1 (some g)) (hX : X g) : RfX X w1 v S L z := by
  obtain ⟨A, c, A', c', e, h1, h2, h3⟩ := h
  exact ⟨A, c, A', c', e, h1.grown hg hX, h2.grown hg hX, h3⟩
theorem RfX.disk {X : Nat → Prop} {w w1 : World} {p t : Nat} {cs : Array Value} {v : Value} {S L : List Int} {z : Nat} (h : RfX X w v S L z) (hg : w.grownBy w1 (some p)) (hp : w.heap[p]? = some (.cells cs t (0, 0))) (ht : t ≠ 5) : RfX X w1 v S L z := by
  obtain ⟨A, c, A', c', e, h1, h2, h3⟩ := h
  exact ⟨A, c, A', c', e, h1.disk hg hp ht, h2.disk hg hp ht, h3⟩
theorem RfX.fresh {X Y : Nat → Prop} {w : World} {v : Value} {S L : List Int} {z : Nat} (h : RfX Y w v S L z) (hX : ∀ k, X k → w.heap.size ≤ k) : RfX X w v S L z := by
  obtain ⟨A, c, A', c', e, h1, h2, h3⟩ := h
  exact ⟨A, c, A', c', e, h1.fresh hX, h2.fresh hX, h3⟩
theorem RfX.imp {X Y : Nat → Prop} {w : World} {v : Value} {S L : List Int} {z : Nat} (h : RfX Y w v S L z) (hX : ∀ k, X k → Y k) : RfX X w v S L z := by
  obtain ⟨A, c, A', c', e, h1, h2, h3⟩ := h
  exact ⟨A, c, A', c', e, h1.imp hX, h2.imp hX, h3⟩
theorem RfX.zero (X : Nat → Prop) (w : World) : RfX X w (.agg #[.slice none 0 0, .slice none 0 0, .int .i64 0]) [] [] 0 := ⟨none, 0, none, 0, rfl, RowX.nil X w, RowX.nil X w, by simp, by omega⟩
theorem all_eq (S L : List Int) (z : Int) (h : S.length + L.length ≤ 10000000) : althingref08_Disk_All.f S L z = some (S ++ L) := by
  unfold althingref08_Disk_All.f
  simp only [Option.bind_some, List.nil_append, List.length_nil]
  rw [if_pos (by omega), if_pos (by omega)]
theorem rall_calls {X : Nat → Prop} (v : Value) (S L : List Int) (z : Nat) (w : World) (h : RfX X w v S L z) :
    Calls Try.prog 31 #[v] w fun e w' => ∃ A c, e = .returned (.slice A (S ++ L).length c) ∧ AnyRow w' A c (S ++ L) ∧ Below w.heap.size w w' := by
  obtain ⟨A, c, A', c', rfl, h1, h2, h3, h4⟩ := h
  refine (althingref08_Disk_All.calls A c S A' c' L z (S ++ L) w h1.any.2.1 h1.any.1 h2.any.2.1 h2.any.1 (all_eq S L z (by omega))).mono ?_
  rintro e w' ⟨v0, rfl, ho, hb⟩
  obtain ⟨A2, c2, rfl, hr⟩ := own_row (X := fun _ => False) ho (fun k hk => hk.elim)
  exact ⟨A2, c2, rfl, hr.any, hb⟩
theorem rsync_calls {X : Nat → Prop} (v : Value) (S L : List Int) (z : Nat) (w : World) (h : RfX X w v S L z) (hX : ∀ k, X k → k < w.heap.size) :
    Calls Try.prog 27 #[v] w fun e w' => ∃ v', e = .returned v' ∧ RfX X w' v' (S ++ L) [] z ∧ Below w.heap.size w w' := by
  obtain ⟨A, c, A', c', rfl, h1, h2, h3, h4⟩ := h
  refine (althingref08_Disk_Sync.calls A c S A' c' L z (S ++ L) [] z w h1.any.2.1 h1.any.1 h2.any.2.1 h2.any.1 (by unfold althingref08_Disk_Sync.f; rw [all_eq S L z (by omega)]; rfl)).mono ?_
  rintro e w' ⟨v0, v1, rfl, ho, ho1, hb⟩
  obtain ⟨A2, c2, rfl, hr⟩ := own_row (X := X) ho hX
  obtain ⟨A3, c3, rfl, hr3⟩ := own_row (X := X) ho1 hX
  exact ⟨_, rfl, ⟨A2, c2, A3, c3, rfl, hr, hr3, by simp; omega, h4⟩, hb⟩
theorem rnew_calls (X : Nat → Prop) (z : Int) (w : World) (hX : ∀ k, X k → k < w.heap.size) :
    Calls Try.prog 17 #[.int .i64 z] w fun e w' => ∃ v, e = .returned (.tuple #[v, .bool (decide (0 ≤ z ∧ z ≤ 1048576))]) ∧ (0 ≤ z ∧ z ≤ 1048576 → RfX X w' v [] [] z.toNat) ∧ Below w.heap.size w w' := by
  have hf : althingref08_New.f z = some ([], [], z, decide (0 ≤ z ∧ z ≤ 1048576)) := by
    unfold althingref08_New.f
    by_cases h : z ≥ 0
    · rw [if_pos h]
      have h' : (0 : Int) ≤ z := h
      simp [h']
    · rw [if_neg h]
      have h' : ¬ (0 : Int) ≤ z := h
      simp [h']
  refine (althingref08_New.calls z [] [] z _ w hf).mono ?_
  rintro e w' ⟨v0, v1, rfl, ho, ho1, hb⟩
  obtain ⟨A2, c2, rfl, hr⟩ := own_row (X := X) ho hX
  obtain ⟨A3, c3, rfl, hr3⟩ := own_row (X := X) ho1 hX
  refine ⟨_, rfl, fun hz => ⟨A2, c2, A3, c3, ?_, hr, hr3, by simp, by omega⟩, hb⟩
  rw [show ((z.toNat : Nat) : Int) = z by omega]
/-- What a crash leaves of the loose bytes. -/
def crashP (L : List Int) (t y : Int) (i : Nat) : List Int := if 0 ≤ t ∧ t < (i : Int) then (L.take i).set t.toNat (Go.bits .xor .u8 (L.getD t.toNat 0) y) else L.take i
theorem crashP_len (L : List Int) (t y : Int) (i : Nat) (h : i ≤ L.length) : (crashP L t y i).length = i := by
  unfold crashP
  split <;> simp <;> omega
theorem crashP_succ (L : List Int) (t y : Int) (i : Nat) (h : i < L.length) : crashP L t y (i + 1) = crashP L t y i ++ [if (i : Int) = t then Go.bits .xor .u8 (L.getD i 0) y else L.getD i 0] := by
  have ht : L.take (i + 1) = L.take i ++ [L.getD i 0] := by
    rw [List.take_succ_eq_append_getElem h]
    simp [List.getD_eq_getElem?_getD, h]
  have hl : (L.take i).length = i := by simp; omega
  unfold crashP
  by_cases e : (i : Int) = t
  · subst e
    rw [if_pos (by omega), if_neg (by omega), if_pos rfl, ht, Int.toNat_natCast, List.set_append_right (h := by omega), hl]
    simp
  · rw [if_neg e]
    by_cases h2 : 0 ≤ t ∧ t < (i : Int)
    · rw [if_pos (by omega), if_pos h2, ht, List.set_append_left (h := by omega)]
    · rw [if_neg (by omega), if_neg h2, ht]
def keptL (L : List Int) (k : Int) : Nat := min L.length k.toNat
theorem crash_go (S L : List Int) (k t y : Int) (z : Int) (hS : S.length + L.length ≤ 10000000) (d : Nat) : ∀ (f i : Nat), i ≤ keptL L k → keptL L k - i = d → 2 * d + 2 ≤ f →
    althingref08_Disk_Crash.l0 f k t y (crashP L t y i) (i : Int) S L z = some (S ++ crashP L t y (keptL L k), [], z) := by
  induction d with
  | zero =>
    intro f i hi hd hf
    have hi' : i = keptL L k := by omega
    obtain ⟨f, rfl⟩ : ∃ j, f = j + 2 := ⟨f - 2, by omega⟩
    have hfin : althingref08_Disk_Crash.j1 (f + 1) k t y (crashP L t y i) (i : Int) false S L z = some (S ++ crashP L t y (keptL L k), [], z) := by
      simp only [althingref08_Disk_Crash.j1]
      rw [if_neg (by simp)]
      have := crashP_len L t y i (by rw [hi']; unfold keptL; omega)
      have hk : keptL L k ≤ L.length := by unfold keptL; omega
      unfold althingref08_Disk_Sync.f
      rw [all_eq _ _ _ (by omega), hi']
      rfl
    simp only [althingref08_Disk_Crash.l0]
    by_cases h1 : (i : Int) < (L.length : Int)
    · rw [if_pos h1, decide_eq_false (by unfold keptL at hi'; omega)]
      exact hfin
    · rw [if_neg h1]
      exact hfin
  | succ d ih =>
    intro f i hi hd hf
    obtain ⟨f, rfl⟩ : ∃ j, f = j + 2 := ⟨f - 2, by omega⟩
    have hk : keptL L k ≤ L.length := by unfold keptL; omega
    have hk2 : keptL L k ≤ k.toNat := by unfold keptL; omega
    have hx : i < L.length := by omega
    have w : wrap64 ((i : Int) + 1) = ((i + 1 : Nat) : Int) := by unfold wrap64; omega
    have rx : rd L (i : Int) = L.getD i 0 := by simp [rd]
    have hcl := crashP_len L t y i (by omega)
    simp only [althingref08_Disk_Crash.l0, althingref08_Disk_Crash.j1]
    rw [if_pos (by omega), if_pos (by simp; omega), if_pos (by omega), if_pos (by omega), w, rx]
    have hs := crashP_succ L t y i hx
    by_cases e : (i : Int) = t
    · rw [if_pos e] at hs ⊢
      rw [if_pos (by omega), ← hs]
      exact ih f (i + 1) (by omega) (by omega) (by omega)
    · rw [if_neg e] at hs ⊢
      rw [if_pos (by omega), ← hs]
      exact ih f (i + 1) (by omega) (by omega) (by omega)
theorem rcrash_calls {X : Nat → Prop} (v : Value) (S L : List Int) (z : Nat) (k t y : Int) (w : World) (h : RfX X w v S L z) (hX : ∀ k, X k → k < w.heap.size) :
    Calls Try.prog 30 #[v, .int .i64 k, .int .i64 t, .int .u8 y] w fun e w' => ∃ v', e = .returned v' ∧ RfX X w' v' (S ++ crashP L t y (keptL L k)) [] z ∧ Below w.heap.size w w' := by
  obtain ⟨A, c, A', c', rfl, h1, h2, h3, h4⟩ := h
  have hk : keptL L k ≤ L.length := by unfold keptL; omega
  have hcl := crashP_len L t y _ hk
  refine (althingref08_Disk_Crash.calls (2 * keptL L k + 2) A c S A' c' L z k t y _ _ _ w h1.any.2.1 h1.any.1 h2.any.2.1 h2.any.1 (?_ : _ = some (S ++ crashP L t y (keptL L k), [], (z : Int)))).mono ?_
  · have := crash_go S L k t y z (by omega) (keptL L k) (2 * keptL L k + 2) 0 (by omega) (by omega) (by omega)
    have h0 : crashP L t y 0 = [] := by
      unfold crashP
      split <;> simp
    rw [h0] at this
    exact this
  rintro e w' ⟨v0, v1, rfl, ho, ho1, hb⟩
  obtain ⟨A2, c2, rfl, hr⟩ := own_row (X := X) ho hX
  obtain ⟨A3, c3, rfl, hr3⟩ := own_row (X := X) ho1 hX
  exact ⟨_, rfl, ⟨A2, c2, A3, c3, rfl, hr, hr3, by simp; omega, h4⟩, hb⟩
end Go.Proofs.Ytpaphcoloogdlaa.Dk
