/- Trips; put in order by their times. -/
import Derived.Test.YtnldlkkcdgdkgaaCh2
import Derived.Test.YtnldlkkcdgdkgaaAxAE
namespace Go.Proofs.Ytnldlkkcdgdkgaa.AX
open Go Go.RowKit
set_option linter.unusedSimpArgs false
set_option linter.unusedVariables false
set_option maxRecDepth 100000
set_option maxHeartbeats 4000000
structure Sn where
  key : ByteArray
  tm : Int
  ac : Int
  val : ByteArray
@[simp] def Sn.cs (s : Sn) : List V := [.str s.key, i64 s.tm, i64 s.ac, .str s.val]
structure Trp where
  cl : Int
  nm : Int
  tm : Int
  ac : Int
  rs : List Sn
  ws : List Wr
  oc : Int
@[simp] def Trp.cs (t : Trp) : List V := [i64 t.cl, i64 t.nm, i64 t.tm, i64 t.ac, .sl (t.rs.map Sn.cs), .sl (t.ws.map Wr.cs), i64 t.oc]
def lt (a b : Trp) : Bool := decide (ord a.tm a.ac b.tm b.ac < 0)
theorem c_cmpT (a b : Trp) : Pure Try.prog 32 [.agg a.cs, .agg b.cs] (i64 (ord a.tm a.ac b.tm b.ac)) := by
  refine pureQ_of_aw dOk Try.func32 rfl rfl rfl rfl rfl ?_
  simp [Try.f32]
  repeat' (first | intro _ | with_reducible refine And.intro ?_ ?_ | exact chkI (by kernel_rfl) | exact backI (by kernel_rfl) | (refine callA (by first | rfl | (simp; done) | (simp; rfl)) (c_cmpStm ..) ?_ <;> try simp) | (refine callB (by first | rfl | (simp; done) | (simp; rfl)) (c_cmpStm ..) ?_ <;> try simp) | (refine callA (by first | rfl | (simp; done) | (simp; rfl)) (c_cmpStm ..) ?_ <;> try simp) | (refine callB (by first | rfl | (simp; done) | (simp; rfl)) (c_cmpStm ..) ?_ <;> try simp) | fail)
/-- An element put into its place, from behind: the list turned about. -/
def insL (x : Trp) : List Trp → List Trp
  | [] => [x]
  | a :: r => if lt x a = true then a :: insL x r else x :: a :: r
def srtR (l : List Trp) : List Trp := l.foldl (fun R x => insL x R) []
theorem insL_len (x : Trp) : ∀ R : List Trp, (insL x R).length = R.length + 1
  | [] => rfl
  | a :: r => by rw [insL]; split <;> simp [insL_len x r]
theorem srtR_snoc (l : List Trp) (x : Trp) : srtR (l ++ [x]) = insL x (srtR l) := by simp [srtR]
theorem srtR_len (l : List Trp) : (srtR l).length = l.length := by
  have key : ∀ (l R : List Trp), (l.foldl (fun R x => insL x R) R).length = l.length + R.length := by
    intro l
    induction l with
    | nil => intro R; simp
    | cons x r ih => intro R; rw [List.foldl_cons, ih, insL_len, List.length_cons]; omega
  simpa [srtR] using key l []
theorem srtR_take {l : List Trp} {i : Nat} {x : Trp} (h : l[i]? = some x) : srtR (l.take (i + 1)) = insL x (srtR (l.take i)) := by
  rw [List.take_add_one, h]
  exact srtR_snoc _ _
/-- A row in which x stands at place j, on its way. -/
def midL (A : List Trp) (j : Nat) (x : Trp) (rest : List Trp) : List Trp := A.take j ++ x :: (A.drop j ++ rest)
theorem mid_len {A rest : List Trp} {j : Nat} {x : Trp} (h : j ≤ A.length) : (midL A j x rest).length = A.length + 1 + rest.length := by
  simp [midL]; omega
theorem mid_at {A rest : List Trp} {j : Nat} {x : Trp} (h : j ≤ A.length) : (midL A j x rest)[j]? = some x := by
  unfold midL
  rw [List.getElem?_append_right (by simp; omega)]
  simp [Nat.min_eq_left h]
theorem mid_prev {A rest : List Trp} {j : Nat} {x a : Trp} (h : A[j]? = some a) : (midL A (j + 1) x rest)[j]? = some a := by
  unfold midL
  have hl : j < A.length := (List.getElem?_eq_some_iff.1 h).1
  rw [List.getElem?_append_left (by simp; omega), List.getElem?_take, if_pos (by omega)]
  exact h
theorem mid_swap {A rest : List Trp} {j : Nat} {x a : Trp} (h : A[j]? = some a) : ((midL A (j + 1) x rest).set (j + 1) a).set j x = midL A j x rest := by
  have hl : j < A.length := (List.getElem?_eq_some_iff.1 h).1
  have e1 : A.take (j + 1) = A.take j ++ [a] := by rw [List.take_add_one, h]; rfl
  have e2 : A.drop j = a :: A.drop (j + 1) := dropL_at h
  have hj : (A.take j).length = j := by simp; omega
  unfold midL
  rw [e1, e2, List.append_assoc, List.set_append_right _ _ (by omega), hj]
  rw [show j + 1 - j = 1 by omega]
  simp only [List.cons_append, List.nil_append, List.set_cons_succ, List.set_cons_zero]
  rw [List.set_append_right _ _ (by omega), hj, Nat.sub_self, List.set_cons_zero]
/-- What is still to be done. -/
def Way (R : List Trp) (x : Trp) (j : Nat) : Prop := insL x R = (R.reverse.drop j).reverse ++ insL x (R.reverse.take j).reverse
theorem way_0 (R : List Trp) (x : Trp) : Way R x R.length := by
  unfold Way
  rw [List.drop_eq_nil_of_le (by simp), List.take_of_length_le (by simp)]
  simp
theorem way_step {R : List Trp} {x a : Trp} {j : Nat} (h : Way R x (j + 1)) (ha : R.reverse[j]? = some a) (hl : lt x a = true) : Way R x j := by
  unfold Way at *
  have e1 : R.reverse.take (j + 1) = R.reverse.take j ++ [a] := by rw [List.take_add_one, ha]; rfl
  have e2 : R.reverse.drop j = a :: R.reverse.drop (j + 1) := dropL_at ha
  have e3 : (R.reverse.take (j + 1)).reverse = a :: (R.reverse.take j).reverse := by rw [e1, List.reverse_append]; rfl
  rw [h, e3, e2, insL, if_pos hl, List.reverse_cons]
  simp
theorem way_end {R : List Trp} {x : Trp} {j : Nat} (h : Way R x j) (hj : j = 0 ∨ ∃ k a, j = k + 1 ∧ R.reverse[k]? = some a ∧ lt x a = false) : (insL x R).reverse = R.reverse.take j ++ x :: R.reverse.drop j := by
  unfold Way at h
  rw [h]
  rcases hj with rfl | ⟨k, a, rfl, ha, hl⟩
  · simp [insL]
  · have e1 : R.reverse.take (k + 1) = R.reverse.take k ++ [a] := by rw [List.take_add_one, ha]; rfl
    have e3 : (R.reverse.take (k + 1)).reverse = a :: (R.reverse.take k).reverse := by rw [e1, List.reverse_append]; rfl
    rw [e3, insL, hl, if_neg (by simp), e1]
    simp
theorem trp_len {l : List Trp} {x : List V} (h : x ∈ l.map Trp.cs) : x.length = 7 := by
  obtain ⟨m, -, rfl⟩ := List.mem_map.1 h
  rfl
end Go.Proofs.Ytnldlkkcdgdkgaa.AX
