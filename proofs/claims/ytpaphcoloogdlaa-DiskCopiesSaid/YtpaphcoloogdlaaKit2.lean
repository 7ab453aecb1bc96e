/- More steps: rows of slice headers; cuts of rows that are read. -/
import Derived.Test.YtpaphcoloogdlaaKit
namespace Go.Proofs.Ytpaphcoloogdlaa.Kit
open Go.RowKit Go.Proofs.YtpaphcoloogdlaaW.PrintWords Go.Proofs.YtpaphcoloogdlaaW.PrintLast Go.Proofs.YtpaphcoloogdlaaW.PrintMore
set_option linter.unusedVariables false
set_option linter.unusedSimpArgs false
section
variable {P : Program} {ops : Array Oper} {rest : List Oper} {o : Oper} {a : Act} {Q : Exit → Act → World → Prop}
/-- Slice headers as elements. -/
abbrev Hd := Option Addr × Nat × Nat
def Hd.val (h : Hd) : Value := .slice h.1 h.2.1 h.2.2
def hds : Kd Hd := Kd.scalar Hd.val (fun _ => rfl)
/-- append(v, x): one element of any one-cell kind. -/
theorem appS_event {α : Type} (enc : α → Value) (h1 : ∀ x, (enc x).oneCell' = true) {w0 W : World} (base : Nat) (hgd : o.guard = none) {N : Tmp} (_hd : o.dst = some N) (s x : Operand) (t e : TypeId) (z : Value) (bytes : Nat)
    (ho : o.op = .call { callee := .builtin .append, args := #[s, x], argTypes := #[t, t] })
    (ht : P.underlying t = some (.slice e)) (hinfo : (P.info? e).map (fun i => (i.zero, i.size, i.bytes)) = some (some z, 1, bytes)) (hz : z.cells.size = 1) (hb0 : 0 < bytes)
    (v : Value) (xs : List α) (p : α) (hs : a.eval s = v) (hx : a.eval x = .slice (some ⟨W.heap.size, 0, none⟩) 1 1)
    (HO : Kd.R (Kd.scalar enc h1) e W base (fun _ => True) v xs) (HB : Below base w0 W) (hbase : base ≤ W.heap.size) (hl : (xs.length + 1) * bytes ≤ 140737488355328)
    (h : ∀ v1 w1, Kd.R (Kd.scalar enc h1) e w1 base (fun _ => True) v1 (xs ++ [p]) → Below base w0 w1 → W.grownBy w1 v.ownBlock → (v1.ownBlock = v.ownBlock ∨ ∃ b, v1.ownBlock = some b ∧ W.heap.size ≤ b) → wpList P ops Q rest (a.put o.dst v1) w1) :
    wpList P ops Q (o :: rest) a (W.alloc (.cells #[enc p] e)) :=
  Kd.R_append (Kd.scalar enc h1) (w0 := w0) base hgd s x t e z bytes ho ht hinfo hz (by show 0 < 1; omega) hb0 v xs p [enc p] (fun _ => True) (fun _ => False) hs hx rfl (fun _ hk => hk.elim) (fun _ _ => trivial) HO HB hbase hl
    (fun v1 w1 h1 h2 h3 h4 => h v1 w1 h1 h2 h3 h4)
end
/-- A cut of a row that is read: where it lies, and what it reads. -/
theorem cut_lh {P : Program} {k : IntKind} {t e : TypeId} {w : World} {A : Option Addr} {c : Nat} {xs : List Int} (ht : P.underlying t = some (.slice e)) (he : P.elem t = e) (hz : ∀ u, (sizeOf e).run P u = .ok 1 u)
    (hC : Kd.C (Kd.int k) w A xs.length xs) (hc : xs.length ≤ c) (l h : Nat) (L H : Int) (hL : L = l) (hH : H = h) (hl : l ≤ h) (hh : h ≤ xs.length) :
    ∃ A', (∀ u, (Instr.slice t (.slice A xs.length c) (some (.int .i64 L)) (some (.int .i64 H)) none).run P u = .ok (.slice A' (h - l) (c - l)) u) ∧ Kd.C (Kd.int k) w A' (h - l) ((xs.take h).drop l) := by
  have h1 := Kd.C_take hC hh
  have hlen : (xs.take h).length = h := by simp; omega
  have h2 := Kd.C_drop (c := c) h1 (show l ≤ (xs.take h).length by omega) (by omega)
  refine ⟨_, fun u => ?_, by rw [List.length_drop, hlen] at h2; exact h2⟩
  subst hL; subst hH
  rw [run_slice_lh (w := u) (t := t) (a := A) (len := xs.length) (cap := c) (by rw [he]; exact ht) .i64 .i64 _ _ (by omega) (by omega) (by omega), he, hz]
  simp only [Result.andThen, sliced, Int.toNat_natCast]
  rfl
theorem cut_h {P : Program} {k : IntKind} {t e : TypeId} {w : World} {A : Option Addr} {c : Nat} {xs : List Int} (ht : P.underlying t = some (.slice e)) (he : P.elem t = e) (hz : ∀ u, (sizeOf e).run P u = .ok 1 u)
    (hC : Kd.C (Kd.int k) w A xs.length xs) (hc : xs.length ≤ c) (h : Nat) (H : Int) (hH : H = h) (hh : h ≤ xs.length) :
    ∃ A', (∀ u, (Instr.slice t (.slice A xs.length c) none (some (.int .i64 H)) none).run P u = .ok (.slice A' h c) u) ∧ Kd.C (Kd.int k) w A' h (xs.take h) := by
  have h1 := Kd.C_take hC hh
  have hlen : (xs.take h).length = h := by simp; omega
  have h2 := Kd.C_drop (c := c) h1 (show 0 ≤ (xs.take h).length by omega) (by omega)
  refine ⟨_, fun u => ?_, by rw [List.drop_zero, hlen] at h2; exact h2⟩
  subst hH
  rw [run_slice_h (w := u) (t := t) (a := A) (len := xs.length) (cap := c) (by rw [he]; exact ht) .i64 _ (by omega) (by omega), he, hz]
  simp only [Result.andThen, sliced, Int.toNat_natCast, Nat.sub_zero]
  rfl
theorem cut_l {P : Program} {k : IntKind} {t e : TypeId} {w : World} {A : Option Addr} {c : Nat} {xs : List Int} (ht : P.underlying t = some (.slice e)) (he : P.elem t = e) (hz : ∀ u, (sizeOf e).run P u = .ok 1 u)
    (hC : Kd.C (Kd.int k) w A xs.length xs) (hc : xs.length ≤ c) (l : Nat) (L : Int) (hL : L = l) (hl : l ≤ xs.length) :
    ∃ A', (∀ u, (Instr.slice t (.slice A xs.length c) (some (.int .i64 L)) none none).run P u = .ok (.slice A' (xs.length - l) (c - l)) u) ∧ Kd.C (Kd.int k) w A' (xs.length - l) (xs.drop l) := by
  have h2 := Kd.C_drop (c := c) hC hl hc
  refine ⟨_, fun u => ?_, by rw [List.length_drop] at h2; exact h2⟩
  subst hL
  rw [run_slice_l (w := u) (t := t) (a := A) (len := xs.length) (cap := c) (by rw [he]; exact ht) .i64 _ (by omega) (by omega), he, hz]
  simp only [Result.andThen, sliced, Int.toNat_natCast]
  rfl
end Go.Proofs.Ytpaphcoloogdlaa.Kit
