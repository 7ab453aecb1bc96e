/- Commands. -/
import Derived.Test.YtalkadbpdaoifaaWi2
namespace Go.Proofs.Ytalkadbpdaoifaa.AX
open Go Go.RowKit
set_option linter.unusedSimpArgs false
set_option linter.unusedVariables false
set_option maxRecDepth 100000
set_option maxHeartbeats 4000000
theorem strs_more {l : List ByteArray} {i : Nat} {k : ByteArray} (h : l[i]? = some k) : strs (l.take (i + 1)) = strs (l.take i) ++ [[.str k]] := by
  rw [List.take_add_one, h]; simp [strs]
theorem c_read (c : Cmd) (hl : c.rs.length ≤ 100 := by assumption) : Pure Try.prog 75 [.agg c.cs] (.sl (strs (c.rs.map (·.key)))) := by
  refine pureQ_of_aw dOk Try.func75 rfl rfl rfl rfl rfl ?_
  simp [Try.f75]
  refine aw_loopM (α := {i : Nat // i ≤ c.rs.length}) [3, 5, 9, 10, 11, 12, 13, 14, 15, 16, 17, 18] (fun i => [(9, i64 i.1), (3, .rf 1)]) (fun i => [(1, .row false 9 1 (strs ((c.rs.map (·.key)).take i.1)))]) 2 (fun i => c.rs.length - i.1) ⟨0, by simp⟩ ((St.to_own 3 9 1 rfl (Nat.le_refl _)).trans (St.to_chk [] (by simp [strs]))) ?_
  rintro ⟨i, h1⟩
  dsimp only
  by_cases hi : i < c.rs.length
  · obtain ⟨x, hx⟩ := getL_some hi
    have hw := wrI hi (by omega)
    have hm := strs_more (l := c.rs.map (·.key)) (i := i) (k := x.key) (by simp [hx])
    simp [hx]
    (repeat' (first | intro _ | with_reducible refine And.intro ?_ ?_ | exact chkI (by kernel_rfl) | exact backI (by kernel_rfl) | (refine Exists.intro (i + 1) (And.intro (by omega) (And.intro (by omega) (St.to_chk [(1, 4)] (by simp [hw, hm]))))) | fail)) <;> (first | done | omega | (refine St.to_chk [] ?_; simp_all; done) | (simp_all; done) | grind)
  · have : i = c.rs.length := by omega
    subst this
    simp [List.take_of_length_le]
theorem c_written (c : Cmd) (hl : c.ws.length ≤ 100 := by assumption) : Pure Try.prog 76 [.agg c.cs] (.sl (strs (c.ws.map (·.key)))) := by
  refine pureQ_of_aw dOk Try.func76 rfl rfl rfl rfl rfl ?_
  simp [Try.f76]
  refine aw_loopM (α := {i : Nat // i ≤ c.ws.length}) [3, 5, 9, 10, 11, 12, 13, 14, 15, 16, 17, 18] (fun i => [(9, i64 i.1), (3, .rf 1)]) (fun i => [(1, .row false 9 1 (strs ((c.ws.map (·.key)).take i.1)))]) 2 (fun i => c.ws.length - i.1) ⟨0, by simp⟩ ((St.to_own 3 9 1 rfl (Nat.le_refl _)).trans (St.to_chk [] (by simp [strs]))) ?_
  rintro ⟨i, h1⟩
  dsimp only
  by_cases hi : i < c.ws.length
  · obtain ⟨x, hx⟩ := getL_some hi
    have hw := wrI hi (by omega)
    have hm := strs_more (l := c.ws.map (·.key)) (i := i) (k := x.key) (by simp [hx])
    simp [hx]
    (repeat' (first | intro _ | with_reducible refine And.intro ?_ ?_ | exact chkI (by kernel_rfl) | exact backI (by kernel_rfl) | (refine Exists.intro (i + 1) (And.intro (by omega) (And.intro (by omega) (St.to_chk [(1, 4)] (by simp [hw, hm]))))) | fail)) <;> (first | done | omega | (refine St.to_chk [] ?_; simp_all; done) | (simp_all; done) | grind)
  · have : i = c.ws.length := by omega
    subst this
    simp [List.take_of_length_le]
theorem c_old (x : Rd) (c : Cmd) : Fn Try.prog 72 [.agg x.cs, .ptr 0 0] [(0, .box false 33 c.cs)] 1 (.bool (okStm x.tm x.ac && decide (ord x.tm x.ac c.tm c.ac < 0))) [(0, .box false 33 c.cs)] 1 := by
  refine fn_of_aw dOk Try.func72 rfl rfl rfl rfl rfl (by simp) rfl (by simp) ?_
  simp [Try.f72]
  (repeat' (first | intro _ | with_reducible refine And.intro ?_ ?_ | exact chkI (by kernel_rfl) | exact backI (by kernel_rfl) | (refine callA (by first | rfl | (simp; done) | (simp; rfl)) (c_rStm ..) ?_ <;> try simp) | (refine callB (by first | rfl | (simp; done) | (simp; rfl)) (c_rStm ..) ?_ <;> try simp) | (refine callA (by first | rfl | (simp; done) | (simp; rfl)) (c_cmpStm ..) ?_ <;> try simp) | (refine callB (by first | rfl | (simp; done) | (simp; rfl)) (c_cmpStm ..) ?_ <;> try simp) | fail)) <;> (first | done | omega | (refine St.to_chk [] ?_; simp_all; done) | (simp_all; done) | grind)
def eqRd (x y : Rd) : Bool := decide (x.key = y.key) && (decide (x.tm = y.tm) && decide (x.ac = y.ac))
def eqWr (x y : Wr) : Bool := decide (x.key = y.key) && decide (x.val = y.val)
def eqL {α : Type} (f : α → α → Bool) : List α → List α → Bool
  | [], [] => true
  | x :: l, y :: m => f x y && eqL f l m
  | _, _ => false
theorem eqL_len {α : Type} {f : α → α → Bool} : ∀ {l m : List α}, l.length ≠ m.length → eqL f l m = false
  | [], [], h => absurd rfl h
  | x :: l, y :: m, h => by rw [eqL, eqL_len (l := l) (m := m) (by simpa using h), Bool.and_false]
  | [], y :: m, h => rfl
  | x :: l, [], h => rfl
theorem eqL_step {α : Type} {f : α → α → Bool} {l m : List α} {i : Nat} {x y : α} (hx : l[i]? = some x) (hy : m[i]? = some y) : eqL f (l.drop i) (m.drop i) = (f x y && eqL f (l.drop (i + 1)) (m.drop (i + 1))) := by
  rw [dropL_at hx, dropL_at hy]; rfl
theorem c_eqR (l m : List Rd) (hl : l.length ≤ 100 := by assumption) : Pure Try.prog 78 [.sl (l.map Rd.cs), .sl (m.map Rd.cs)] (.bool (eqL eqRd l m)) := by
  by_cases hlen : l.length = m.length
  · refine pureQ_of_aw dOk Try.func78 rfl rfl rfl rfl rfl ?_
    simp [Try.f78, hlen]
    refine aw_loopS (α := {i : Nat // i ≤ l.length ∧ eqL eqRd l m = eqL eqRd (l.drop i) (m.drop i)}) [4, 5, 13, 14, 15, 16, 17, 18, 19, 20, 21, 22, 23, 24, 25] (fun i => [(13, i64 i.1)]) (fun i => l.length - i.1) ⟨0, by simp⟩ (by simp [hlen]) ?_
    rintro ⟨i, h1, h2⟩
    dsimp only
    by_cases hi : i < l.length
    · obtain ⟨x, hx⟩ := getL_some hi
      obtain ⟨y, hy⟩ := getL_some (l := m) (i := i) (by omega)
      have hw := wrI hi (by omega)
      rw [eqL_step hx hy, eqRd] at h2
      simp [hx, hy]
      (repeat' (first | intro _ | with_reducible refine And.intro ?_ ?_ | exact chkI (by kernel_rfl) | exact backI (by kernel_rfl) | (refine Exists.intro (i + 1) (And.intro (by omega) (And.intro (And.intro (by omega) (by simp_all)) (St.to_chk [] (by simp_all))))) | fail)) <;> (first | done | omega | (refine St.to_chk [] ?_; simp_all; done) | (simp_all; done) | grind)
    · rw [List.drop_eq_nil_of_le (by omega), List.drop_eq_nil_of_le (by omega), eqL] at h2
      have : ¬ i < m.length := by omega
      simp [this, h2]
  · have := eqL_len (f := eqRd) hlen
    have hlen' : ¬ ((l.length : Int) = (m.length : Int)) := by omega
    refine pureQ_of_aw dOk Try.func78 rfl rfl rfl rfl rfl ?_
    simp [Try.f78, hlen, hlen']
    (repeat' (first | intro _ | with_reducible refine And.intro ?_ ?_ | exact chkI (by kernel_rfl) | exact backI (by kernel_rfl) | fail)) <;> (first | done | omega | (refine St.to_chk [] ?_; simp_all; done) | (simp_all; done) | grind)
theorem c_eqW (l m : List Wr) (hl : l.length ≤ 100 := by assumption) : Pure Try.prog 79 [.sl (l.map Wr.cs), .sl (m.map Wr.cs)] (.bool (eqL eqWr l m)) := by
  by_cases hlen : l.length = m.length
  · refine pureQ_of_aw dOk Try.func79 rfl rfl rfl rfl rfl ?_
    simp [Try.f79, hlen]
    refine aw_loopS (α := {i : Nat // i ≤ l.length ∧ eqL eqWr l m = eqL eqWr (l.drop i) (m.drop i)}) [4, 5, 13, 14, 15, 16, 17, 18, 19, 20, 21, 22, 23, 24, 25] (fun i => [(13, i64 i.1)]) (fun i => l.length - i.1) ⟨0, by simp⟩ (by simp [hlen]) ?_
    rintro ⟨i, h1, h2⟩
    dsimp only
    by_cases hi : i < l.length
    · obtain ⟨x, hx⟩ := getL_some hi
      obtain ⟨y, hy⟩ := getL_some (l := m) (i := i) (by omega)
      have hw := wrI hi (by omega)
      rw [eqL_step hx hy, eqWr] at h2
      simp [hx, hy]
      (repeat' (first | intro _ | with_reducible refine And.intro ?_ ?_ | exact chkI (by kernel_rfl) | exact backI (by kernel_rfl) | (refine Exists.intro (i + 1) (And.intro (by omega) (And.intro (And.intro (by omega) (by simp_all)) (St.to_chk [] (by simp_all))))) | fail)) <;> (first | done | omega | (refine St.to_chk [] ?_; simp_all; done) | (simp_all; done) | grind)
    · rw [List.drop_eq_nil_of_le (by omega), List.drop_eq_nil_of_le (by omega), eqL] at h2
      have : ¬ i < m.length := by omega
      simp [this, h2]
  · have := eqL_len (f := eqWr) hlen
    have hlen' : ¬ ((l.length : Int) = (m.length : Int)) := by omega
    refine pureQ_of_aw dOk Try.func79 rfl rfl rfl rfl rfl ?_
    simp [Try.f79, hlen, hlen']
    (repeat' (first | intro _ | with_reducible refine And.intro ?_ ?_ | exact chkI (by kernel_rfl) | exact backI (by kernel_rfl) | fail)) <;> (first | done | omega | (refine St.to_chk [] ?_; simp_all; done) | (simp_all; done) | grind)
end Go.Proofs.Ytalkadbpdaoifaa.AX
