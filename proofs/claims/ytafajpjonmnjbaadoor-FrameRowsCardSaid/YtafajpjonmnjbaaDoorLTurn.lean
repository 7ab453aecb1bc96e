/- A byte turned, bytes cut off: which frames a scan still tells. Plain lists. -/
import Derived.Test.YtafajpjonmnjbaaDoorLFrames
namespace Go.Proofs.YtafajpjonmnjbaaDoor.Fr
open Go.RowKit
set_option linter.unusedVariables false
set_option linter.unusedSimpArgs false
theorem not8_inj {x y : Int} (hx : 0 ≤ x ∧ x < 256) (hy : 0 ≤ y ∧ y < 256) (h : not8 x = not8 y) : x = y := by
  rw [not8_eq x hx.1 hx.2, not8_eq y hy.1 hy.2] at h
  omega
theorem Bytes.set {l : List Int} (h : Bytes l) (k : Nat) {v : Int} (hv : 0 ≤ v ∧ v < 256) : Bytes (l.set k v) := fun x hx => by
  rcases List.mem_or_eq_of_mem_set hx with h1 | rfl
  · exact h x h1
  · exact hv
theorem turned_no (p r : List Int) (k : Nat) (v : Int) (hy : Bytes (frame p ++ r)) (h1 : 1 ≤ p.length) (h2 : p.length ≤ 4096) (hk : k < p.length + 8) (hv : 0 ≤ v ∧ v < 256) (hne : v ≠ (frame p ++ r).getD k 0) : (getS ((frame p ++ r).set k v)).2.2 ≠ 0 := by
  intro h
  obtain ⟨p', r', he, g1, g2⟩ := getS_of_ok (hy.set k hv) h
  have hyp : Bytes (hdr (p.length : Int) ++ p) := fun x hx => hy x (by simp only [frame]; simp only [List.mem_append] at hx ⊢; exact Or.inl (Or.inl hx))
  rw [frame_cons] at he hne
  rw [frame_cons] at he
  match k, hk with
  | 0, _ =>
    simp only [List.set_cons_zero, List.cons.injEq] at he
    simp only [List.getD_cons_zero] at hne
    obtain ⟨e0, e1, e2, e3, e4⟩ := he
    have := not8_inj (by omega) (by omega) e2
    omega
  | 1, _ =>
    simp only [List.set_cons_zero, List.set_cons_succ, List.cons.injEq] at he
    simp only [List.getD_cons_zero, List.getD_cons_succ] at hne
    obtain ⟨e0, e1, e2, e3, e4⟩ := he
    have := not8_inj (by omega) (by omega) e3
    omega
  | 2, _ =>
    simp only [List.set_cons_zero, List.set_cons_succ, List.cons.injEq] at he
    simp only [List.getD_cons_zero, List.getD_cons_succ] at hne
    obtain ⟨e0, e1, e2, e3, e4⟩ := he
    rw [e0] at hne
    omega
  | 3, _ =>
    simp only [List.set_cons_zero, List.set_cons_succ, List.cons.injEq] at he
    simp only [List.getD_cons_zero, List.getD_cons_succ] at hne
    obtain ⟨e0, e1, e2, e3, e4⟩ := he
    rw [e1] at hne
    omega
  | j + 4, hk =>
    simp only [List.set_cons_zero, List.set_cons_succ, List.cons.injEq] at he
    simp only [List.getD_cons_zero, List.getD_cons_succ] at hne
    obtain ⟨e0, e1, _, _, e4⟩ := he
    have hn : p'.length = p.length := by omega
    rw [hn] at e4
    have r1 := crc_range _ hyp
    by_cases hj : j < p.length
    · rw [List.set_append_left _ _ hj] at e4
      have e5 := List.append_inj e4 (by simp [hn])
      obtain ⟨e6, e7⟩ := e5
      have e8 := (List.append_inj e7 (by rw [sum_len, sum_len])).1
      have hyp' : Bytes (hdr (p.length : Int) ++ p') := by
        rw [← e6]
        exact (hdr_bytes p.length h2).append (Bytes.set (fun x hx => hyp x (by simp [hx])) j hv)
      have e9 := sum_inj r1 (crc_range _ hyp') e8
      rw [← e6] at e9
      have s1 : p = p.take j ++ p[j] :: p.drop (j + 1) := by rw [List.getElem_cons_drop, List.take_append_drop]
      have s2 : p.set j v = p.take j ++ v :: p.drop (j + 1) := List.set_eq_take_append_cons_drop .. |>.trans (if_pos hj)
      have e10 : crc ((hdr (p.length : Int) ++ p.take j) ++ p[j] :: p.drop (j + 1)) = crc ((hdr (p.length : Int) ++ p.take j) ++ v :: p.drop (j + 1)) := by
        rw [List.append_assoc, List.append_assoc, ← s1, ← s2]
        exact e9
      have e11 := crc_turn _ _ _ v (by rw [List.append_assoc, ← s1]; exact hyp) hv e10
      apply hne
      rw [← e11, List.getD_eq_getElem?_getD, List.getElem?_append_left hj, List.getElem?_eq_getElem hj]
      rfl
    · rw [List.set_append_right _ _ (by omega)] at e4
      obtain ⟨e6, e7⟩ := List.append_inj e4 (by simp [hn])
      subst e6
      have hj4 : j - p.length < 4 := by omega
      have hjs : j - p.length < (sumBytes (crc (hdr (p.length : Int) ++ p)) 4).length := by rw [sum_len]; exact hj4
      rw [List.set_append_left _ _ hjs] at e7
      have e8 := (List.append_inj e7 (by simp)).1
      apply hne
      rw [List.getD_eq_getElem?_getD, List.getElem?_append_right (by omega), List.getElem?_append_left hjs]
      have e9 := congrArg (fun l : List Int => l[j - p.length]?) e8
      rw [List.getElem?_set_self hjs] at e9
      rw [← e9]
      rfl
theorem cut_no (p r : List Int) (j : Nat) (hy : Bytes (frame p ++ r)) (h1 : 1 ≤ p.length) (h2 : p.length ≤ 4096) (hj : j < p.length + 8) : (getS ((frame p ++ r).take j)).2.2 ≠ 0 := by
  intro h
  have hyt : Bytes ((frame p ++ r).take j) := fun x hx => hy x (List.mem_of_mem_take hx)
  obtain ⟨p', r', he, g1, g2⟩ := getS_of_ok hyt h
  have hl := congrArg List.length he
  rw [List.length_take, List.length_append, List.length_append, frame_len, frame_len] at hl
  have hj9 : p'.length + 8 ≤ j := by omega
  obtain ⟨i, rfl⟩ : ∃ i, j = i + 2 := ⟨j - 2, by omega⟩
  rw [frame_cons, frame_cons, List.take_succ_cons, List.take_succ_cons] at he
  simp only [List.cons.injEq] at he
  obtain ⟨e0, e1, _⟩ := he
  omega
/-- How many frames end at a place or ahead of it, and where the last of these ends. -/
def upto : List (List Int) → Nat → Nat × Nat
  | [], _ => (0, 0)
  | p :: ps, k => if k < p.length + 8 then (0, 0) else ((upto ps (k - (p.length + 8))).1 + 1, (upto ps (k - (p.length + 8))).2 + (p.length + 8))
theorem scan_cut : ∀ (xs : List (List Int)) (k : Nat), (∀ x ∈ xs, Bytes x) → Fit xs → k ≤ (rowsOf xs).length → (scanS ((rowsOf xs).take k)).1.length = (upto xs k).1 ∧ (scanS ((rowsOf xs).take k)).2 = (upto xs k).2
  | [], k, _, _, hk => by
    simp [rowsOf] at hk
    subst hk
    exact ⟨rfl, rfl⟩
  | p :: xs, k, hb, hf, hk => by
    have hp := hf p (by simp)
    have hyb := rows_bytes _ hb hf
    rw [rowsOf_cons] at hk hyb ⊢
    by_cases h : k < p.length + 8
    · rw [scanS_no (cut_no p _ k hyb hp.1 hp.2 h)]
      unfold upto
      rw [if_pos h]
      exact ⟨rfl, rfl⟩
    · have e : (frame p ++ rowsOf xs).take k = frame p ++ (rowsOf xs).take (k - (p.length + 8)) := by
        rw [List.take_append, List.take_of_length_le (by rw [frame_len]; omega), frame_len]
      rw [List.length_append, frame_len] at hk
      obtain ⟨i1, i2⟩ := scan_cut xs (k - (p.length + 8)) (fun q hq => hb q (by simp [hq])) (fun q hq => hf q (by simp [hq])) (by omega)
      rw [e, scanS_frame p _ hp.1 hp.2]
      unfold upto
      rw [if_neg h]
      simp only [List.length_cons, i1, i2]
      exact ⟨trivial, by omega⟩
theorem scan_turned : ∀ (xs : List (List Int)) (k : Nat) (v : Int), (∀ x ∈ xs, Bytes x) → Fit xs → k < (rowsOf xs).length → (0 ≤ v ∧ v < 256) → v ≠ (rowsOf xs).getD k 0 → (scanS ((rowsOf xs).set k v)).1.length = (upto xs k).1 ∧ (scanS ((rowsOf xs).set k v)).2 = (upto xs k).2
  | [], k, v, _, _, hk, _, _ => by simp [rowsOf] at hk
  | p :: xs, k, v, hb, hf, hk, hv, hne => by
    have hp := hf p (by simp)
    have hyb := rows_bytes _ hb hf
    rw [rowsOf_cons] at hk hyb hne ⊢
    by_cases h : k < p.length + 8
    · rw [scanS_no (turned_no p _ k v hyb hp.1 hp.2 h hv hne)]
      unfold upto
      rw [if_pos h]
      exact ⟨rfl, rfl⟩
    · have hfl := frame_len p
      rw [List.length_append, frame_len] at hk
      rw [List.set_append_right _ _ (by omega), hfl]
      rw [List.getD_eq_getElem?_getD, List.getElem?_append_right (by omega), hfl, ← List.getD_eq_getElem?_getD] at hne
      obtain ⟨i1, i2⟩ := scan_turned xs (k - (p.length + 8)) v (fun q hq => hb q (by simp [hq])) (fun q hq => hf q (by simp [hq])) (by omega) hv hne
      rw [scanS_frame p _ hp.1 hp.2]
      unfold upto
      rw [if_neg h]
      simp only [List.length_cons, i1, i2]
      exact ⟨trivial, by omega⟩
end Go.Proofs.YtafajpjonmnjbaaDoor.Fr
