/- Keys, and lists of them. -/
import Derived.Test.YtalkadbpdaoifaaWi1
namespace Go.Proofs.Ytalkadbpdaoifaa.AX
open Go Go.RowKit
set_option linter.unusedSimpArgs false
set_option linter.unusedVariables false
set_option maxRecDepth 100000
set_option maxHeartbeats 4000000
theorem less_take : ∀ (i : Nat) (x y : List UInt8), i ≤ x.length → i ≤ y.length → x.take i = y.take i → Op.bytesLess x y = Op.bytesLess (x.drop i) (y.drop i)
  | 0, x, y, _, _, _ => by simp
  | i + 1, a :: x, b :: y, h1, h2, h => by
    simp only [List.take_succ_cons, List.cons.injEq] at h
    obtain ⟨rfl, h⟩ := h
    have ih := less_take i x y (by simpa using h1) (by simpa using h2) h
    simp only [List.drop_succ_cons, ← ih, Op.bytesLess]
    simp
  | i + 1, [], y, h1, _, _ => by simp at h1
  | i + 1, a :: x, [], _, h2, _ => by simp at h2
theorem take_more {x y : List UInt8} {i : Nat} {a : UInt8} (h : x.take i = y.take i) (h1 : x[i]? = some a) (h2 : y[i]? = some a) : x.take (i + 1) = y.take (i + 1) := by
  rw [List.take_add_one, List.take_add_one, h, h1, h2]
theorem data_len (a : ByteArray) : a.data.toList.length = a.size := by cases a; simp [ByteArray.size]
theorem data_some (a : ByteArray) {i : Nat} (h : i < a.size) : ∃ x, a.data[i]? = some x := by
  have h' : i < a.data.size := h
  exact ⟨a.data[i], Array.getElem?_eq_getElem h'⟩
theorem drop_at (a : ByteArray) {i : Nat} {x : UInt8} (h : a.data[i]? = some x) : a.data.toList.drop i = x :: a.data.toList.drop (i + 1) := by
  have h' : a.data.toList[i]? = some x := by simpa using h
  obtain ⟨hi, rfl⟩ := List.getElem?_eq_some_iff.1 h'
  exact (List.drop_eq_getElem_cons hi)
theorem toNat_eq (x y : UInt8) : ((x.toNat : Int) = (y.toNat : Int)) ↔ x = y := by
  constructor
  · intro h; exact UInt8.toNat_inj.1 (by omega)
  · rintro rfl; rfl
theorem wrI {i n : Nat} (h : i < n) (hn : n ≤ 4611686018427387904) : IntKind.i64.wrap ((i : Int) + 1) = (i : Int) + 1 := wr64 (by omega) (by omega)
theorem c_before (a b : ByteArray) (hb : b.size ≤ 4611686018427387904 := by omega) : Pure Try.prog 83 [.str a, .str b] (.bool (lessS a b)) := by
  refine pureQ_of_aw dOk Try.func83 rfl rfl rfl rfl rfl ?_
  simp [Try.f83]
  refine aw_loopS (α := {i : Nat // i ≤ b.size ∧ i ≤ a.size ∧ a.data.toList.take i = b.data.toList.take i}) [4, 5, 6, 7, 8, 9, 10, 11, 12, 13, 14, 15, 16, 17, 18, 19, 20, 21, 22, 23, 24, 25, 26, 27, 28, 29] (fun i => [(5, i64 i.1)]) (fun i => b.size - i.1) ⟨0, by simp⟩ (by simp) ?_
  rintro ⟨i, h1, h2, h3⟩
  have key : lessS a b = Op.bytesLess (a.data.toList.drop i) (b.data.toList.drop i) := less_take i _ _ (by rw [data_len]; exact h2) (by rw [data_len]; exact h1) h3
  simp
  refine ⟨fun hb => ⟨fun ha => ?_, fun ha => ?_⟩, fun hb => ?_⟩
  · obtain ⟨y, hy⟩ := data_some b hb
    rw [key, List.drop_eq_nil_of_le (by rw [data_len]; omega), drop_at b hy]
    rfl
  · obtain ⟨x, hx⟩ := data_some a (show i < a.size by omega)
    obtain ⟨y, hy⟩ := data_some b hb
    rw [drop_at a hx, drop_at b hy] at key
    simp [hx, hy, toNat_eq]
    repeat' (first | intro _ | with_reducible refine And.intro ?_ ?_ | exact chkI (by kernel_rfl) | exact backI (by kernel_rfl) | fail)
    · rename_i hne
      rw [key]
      simp [Op.bytesLess, hne, UInt8.lt_iff_toNat_lt]
    · rename_i he
      subst he
      refine ⟨i + 1, by omega, ⟨by omega, by omega, take_more h3 (by simpa using hx) (by simpa using hy)⟩, St.to_chk [] (by simp [wrI hb ‹_›])⟩
  · rw [key, show b.data.toList.drop i = [] from List.drop_eq_nil_of_le (by rw [data_len]; omega)]
    cases List.drop i a.data.toList <;> simp [Op.bytesLess]
def okKeysGo : Option ByteArray → List ByteArray → Bool
  | _, [] => true
  | p, k :: r => okKey k && ((match p with | none => true | some q => lessS q k) && okKeysGo (some k) r)
def okKeys (l : List ByteArray) : Bool := okKeysGo none l && decide (l.length ≤ 8)
def prev (l : List ByteArray) : Nat → Option ByteArray
  | 0 => none
  | i + 1 => l[i]?
def strs (l : List ByteArray) : List (List V) := l.map fun k => [.str k]
@[simp high] theorem strs_get (l : List ByteArray) (i : Nat) : (strs l)[i]? = (l[i]?).map fun k => [.str k] := by simp [strs]
@[simp] theorem strs_len (l : List ByteArray) : (strs l).length = l.length := by simp [strs]
theorem getL_some {α : Type} {l : List α} {i : Nat} (h : i < l.length) : ∃ x, l[i]? = some x := ⟨l[i], by simp [h]⟩
theorem dropL_at {α : Type} {l : List α} {i : Nat} {x : α} (h : l[i]? = some x) : l.drop i = x :: l.drop (i + 1) := by
  obtain ⟨hi, rfl⟩ := List.getElem?_eq_some_iff.1 h
  exact List.drop_eq_getElem_cons hi
theorem okKeys_step {l : List ByteArray} {i : Nat} {k : ByteArray} (hk : l[i]? = some k) : okKeysGo (prev l i) (l.drop i) = (okKey k && ((match prev l i with | none => true | some q => lessS q k) && okKeysGo (prev l (i + 1)) (l.drop (i + 1)))) := by
  rw [dropL_at hk]
  show okKeysGo _ _ = (okKey k && (_ && okKeysGo (l[i]?) _))
  rw [hk]
  cases prev l i <;> rfl
theorem c_rKeys (l : List ByteArray) (hl : l.length ≤ 4611686018427387904 := by omega) : Pure Try.prog 74 [.sl (strs l)] (.bool (okKeys l)) := by
  refine pureQ_of_aw dOk Try.func74 rfl rfl rfl rfl rfl ?_
  simp [Try.f74]
  refine aw_loopS (α := {i : Nat // i ≤ l.length ∧ okKeys l = (okKeysGo (prev l i) (l.drop i) && decide (l.length ≤ 8))}) [2, 3, 4, 7, 8, 9, 10, 11, 12, 13, 14, 15, 16, 17, 18, 19, 20, 21, 22, 23, 24, 25, 26, 27, 28] (fun i => [(7, i64 i.1)]) (fun i => l.length - i.1) ⟨0, by simp [okKeys, prev]⟩ (by simp) ?_
  rintro ⟨i, h1, h2⟩
  dsimp only
  by_cases hi : i < l.length
  · obtain ⟨k, hk⟩ := getL_some hi
    rw [okKeys_step hk] at h2
    have hw := wrI hi hl
    by_cases h0 : i = 0
    · subst h0
      simp [hk, prev] at h2 ⊢
      (repeat' (first | intro _ | with_reducible refine And.intro ?_ ?_ | exact chkI (by kernel_rfl) | exact backI (by kernel_rfl) | (refine callA (by first | rfl | (simp; done) | (simp; rfl)) (c_rKey ..) ?_ <;> try simp [*]) | (refine callB (by first | rfl | (simp; done) | (simp; rfl)) (c_rKey ..) ?_ <;> try simp [*]) | (refine Exists.intro 1 (And.intro (by omega) (And.intro (And.intro (by omega) (by simp_all [prev])) (St.to_chk [] (by simp))))) | fail)) <;> (first | done | omega | (refine St.to_chk [] ?_; simp_all; done) | (simp_all; done) | grind)
    · obtain ⟨k', hk'⟩ := getL_some (l := l) (i := i - 1) (by omega)
      have hp : prev l i = some k' := by cases i <;> first | omega | simpa [prev] using hk'
      have hj : IntKind.i64.wrap ((i : Int) - 1) = ((i - 1 : Nat) : Int) := by rw [wr64 (by omega) (by omega)]; omega
      have h0' : 0 < i := by omega
      rw [hp] at h2
      simp [hk, hk', hj, h0'] at h2 ⊢
      (repeat' (first | intro _ | with_reducible refine And.intro ?_ ?_ | exact chkI (by kernel_rfl) | exact backI (by kernel_rfl) | (refine callA (by first | rfl | (simp; done) | (simp; rfl)) (c_rKey ..) ?_ <;> try simp [hk, hk', hj, h0']) | (refine callB (by first | rfl | (simp; done) | (simp; rfl)) (c_rKey ..) ?_ <;> try simp [hk, hk', hj, h0']) | (refine Exists.intro (i + 1) (And.intro (by omega) (And.intro (And.intro (by omega) (by simp_all)) (St.to_chk [] (by simp [hw]))))) | fail)) <;> (first | done | omega | (refine St.to_chk [] ?_; simp_all; done) | (simp_all; done) | grind)
  · have : i = l.length := by omega
    subst this
    simp [okKeysGo] at h2 ⊢
    simp [h2]
    omega
theorem c_rKeys' (l : List ByteArray) (hl : l.length ≤ 4611686018427387904 := by omega) (hs : ∀ k ∈ l, k.size ≤ 4611686018427387904 := by assumption) : Pure Try.prog 49 [.sl (strs l)] (.bool (okKeys l)) := by
  refine pureQ_of_aw dOk Try.func49 rfl rfl rfl rfl rfl ?_
  simp [Try.f49]
  refine aw_loopS (α := {i : Nat // i ≤ l.length ∧ okKeys l = (okKeysGo (prev l i) (l.drop i) && decide (l.length ≤ 8))}) [2, 3, 4, 5, 6, 7, 8, 9, 10, 11, 12, 13, 14, 15, 16, 17, 18, 19, 20, 21, 22, 23, 24, 25, 26, 27, 28, 29, 30, 31, 32] (fun i => [(3, i64 i.1)]) (fun i => l.length - i.1) ⟨0, by simp [okKeys, prev]⟩ (by simp) ?_
  rintro ⟨i, h1, h2⟩
  dsimp only
  by_cases hi : i < l.length
  · obtain ⟨k, hk⟩ := getL_some hi
    rw [okKeys_step hk] at h2
    have hw := wrI hi hl
    have hsz := hs k (List.mem_of_getElem? hk)
    by_cases h0 : i = 0
    · subst h0
      simp [hk, prev] at h2 ⊢
      (repeat' (first | intro _ | with_reducible refine And.intro ?_ ?_ | exact chkI (by kernel_rfl) | exact backI (by kernel_rfl) | (refine callA (by first | rfl | (simp; done) | (simp; rfl)) (c_rKey' ..) ?_ <;> try simp [*]) | (refine callB (by first | rfl | (simp; done) | (simp; rfl)) (c_rKey' ..) ?_ <;> try simp [*]) | (refine callA (by first | rfl | (simp; done) | (simp; rfl)) (c_before ..) ?_ <;> try simp [*]) | (refine callB (by first | rfl | (simp; done) | (simp; rfl)) (c_before ..) ?_ <;> try simp [*]) | (refine Exists.intro 1 (And.intro (by omega) (And.intro (And.intro (by omega) (by simp_all [prev])) (St.to_chk [] (by simp))))) | fail)) <;> (first | done | omega | (refine St.to_chk [] ?_; simp_all; done) | (simp_all; done) | grind)
    · obtain ⟨k', hk'⟩ := getL_some (l := l) (i := i - 1) (by omega)
      have hp : prev l i = some k' := by cases i <;> first | omega | simpa [prev] using hk'
      have hj : IntKind.i64.wrap ((i : Int) - 1) = ((i - 1 : Nat) : Int) := by rw [wr64 (by omega) (by omega)]; omega
      have h0' : 0 < i := by omega
      rw [hp] at h2
      simp [hk, hk', hj, h0'] at h2 ⊢
      (repeat' (first | intro _ | with_reducible refine And.intro ?_ ?_ | exact chkI (by kernel_rfl) | exact backI (by kernel_rfl) | (refine callA (by first | rfl | (simp; done) | (simp; rfl)) (c_rKey' ..) ?_ <;> try simp [hk, hk', hj, h0']) | (refine callB (by first | rfl | (simp; done) | (simp; rfl)) (c_rKey' ..) ?_ <;> try simp [hk, hk', hj, h0']) | (refine callA (by first | rfl | (simp; done) | (simp; rfl)) (c_before ..) ?_ <;> try simp [hk, hk', hj, h0']) | (refine callB (by first | rfl | (simp; done) | (simp; rfl)) (c_before ..) ?_ <;> try simp [hk, hk', hj, h0']) | (refine Exists.intro (i + 1) (And.intro (by omega) (And.intro (And.intro (by omega) (by simp_all)) (St.to_chk [] (by simp [hw]))))) | fail)) <;> (first | done | omega | (refine St.to_chk [] ?_; simp_all; done) | (simp_all; done) | grind)
  · have : i = l.length := by omega
    subst this
    simp [okKeysGo] at h2 ⊢
    simp [h2]
    omega
end Go.Proofs.Ytalkadbpdaoifaa.AX
