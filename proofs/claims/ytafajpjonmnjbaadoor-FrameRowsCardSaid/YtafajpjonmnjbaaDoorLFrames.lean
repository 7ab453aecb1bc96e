/- Frames in a row: what a scan tells of them, whole, with a byte turned, and cut. Plain lists; no program in sight. -/
import Derived.Test.YtafajpjonmnjbaaDoorLRowsA
namespace Go.Proofs.YtafajpjonmnjbaaDoor.Fr
open Go.RowKit
set_option linter.unusedVariables false
set_option linter.unusedSimpArgs false
theorem frame_cons (p r : List Int) : frame p ++ r = ((p.length : Int) % 256) :: ((p.length : Int) / 256) :: not8 ((p.length : Int) % 256) :: not8 ((p.length : Int) / 256) :: (p ++ (sumBytes (crc (hdr p.length ++ p)) 4 ++ r)) := by
  simp [frame, hdr]
theorem sum_len (s : Int) : (sumBytes s 4).length = 4 := by simp [sumBytes]
theorem getS_frame (p r : List Int) (h1 : 1 ≤ p.length) (h2 : p.length ≤ 4096) : getS (frame p ++ r) = (p, (p.length : Int) + 8, 0) := by
  have hsay : sayN (frame p ++ r) = p.length := by
    rw [frame_cons]
    simp only [sayN, List.getD_cons_zero, List.getD_cons_succ]
    omega
  have hlen : (frame p ++ r).length = p.length + 8 + r.length := by rw [List.length_append, frame_len]
  have hh : (frame p ++ r).getD 2 0 = not8 ((frame p ++ r).getD 0 0) ∧ (frame p ++ r).getD 3 0 = not8 ((frame p ++ r).getD 1 0) := by
    rw [frame_cons]
    exact ⟨rfl, rfl⟩
  have hq : (hdr (p.length : Int) ++ p).length = 4 + p.length := by simp [hdr]; omega
  have e1 : frame p ++ r = (hdr (p.length : Int) ++ p) ++ (sumBytes (crc (hdr (p.length : Int) ++ p)) 4 ++ r) := by simp [frame]
  have t1 : (frame p ++ r).take (4 + p.length) = hdr (p.length : Int) ++ p := by
    rw [e1, ← hq]
    exact List.take_left
  have t2 : ((frame p ++ r).take (p.length + 8)).drop (4 + p.length) = sumBytes (crc (hdr (p.length : Int) ++ p)) 4 := by
    rw [List.drop_take, e1, ← hq, List.drop_left, hq]
    have : p.length + 8 - (4 + p.length) = (sumBytes (crc (hdr (p.length : Int) ++ p)) 4).length := by rw [sum_len]; omega
    rw [this]
    exact List.take_left
  unfold getS
  rw [if_neg (by omega), if_pos ⟨hh.1, hh.2, by rw [hsay]; omega⟩, hsay, if_neg (by omega), t1, t2, if_pos rfl]
  have : (hdr (p.length : Int) ++ p).drop 4 = p := by simp [hdr]
  rw [this]
theorem scanS_frame (p r : List Int) (h1 : 1 ≤ p.length) (h2 : p.length ≤ 4096) : scanS (frame p ++ r) = (p :: (scanS r).1, (p.length + 8) + (scanS r).2) := by
  have hg := getS_frame p r h1 h2
  have hn : getN (frame p ++ r) = p.length + 8 := by unfold getN; rw [hg]; simp; omega
  have hd : (frame p ++ r).drop (p.length + 8) = r := by
    rw [← frame_len p]
    exact List.drop_left
  rw [scanS_ok (by rw [hg]), hn, hd, hg]
/-- Frames in a row. -/
def rowsOf (xs : List (List Int)) : List Int := (xs.map frame).flatten
theorem rowsOf_cons (p : List Int) (xs : List (List Int)) : rowsOf (p :: xs) = frame p ++ rowsOf xs := rfl
def Fit (xs : List (List Int)) : Prop := ∀ p ∈ xs, 1 ≤ p.length ∧ p.length ≤ 4096
theorem scan_rows : ∀ (xs : List (List Int)) (r : List Int), Fit xs → scanS (rowsOf xs ++ r) = (xs ++ (scanS r).1, (rowsOf xs).length + (scanS r).2)
  | [], r, _ => by simp [rowsOf]
  | p :: xs, r, h => by
    have hp := h p (by simp)
    rw [rowsOf_cons, List.append_assoc, scanS_frame p _ hp.1 hp.2, scan_rows xs r (fun q hq => h q (by simp [hq]))]
    simp [frame_len, Nat.add_assoc]
theorem scan_nil : scanS [] = ([], 0) := rfl
theorem rowGo_some : ∀ (xs : List (List Int)) (out b : List Int), rowGo xs out = some b → b = out ++ rowsOf xs ∧ b.length ≤ 4500 ∧ Fit xs
  | [], out, b, h => by
    unfold rowGo at h
    split at h
    · cases h; exact ⟨by simp [rowsOf], by assumption, fun p hp => by simp at hp⟩
    · cases h
  | p :: xs, out, b, h => by
    unfold rowGo at h
    split at h
    · cases h
    · obtain ⟨h1, h2, h3⟩ := rowGo_some xs _ b h
      refine ⟨by rw [h1, rowsOf_cons]; simp, h2, fun q hq => ?_⟩
      rcases List.mem_cons.1 hq with rfl | hq
      · omega
      · exact h3 q hq
theorem rowS_some {xs : List (List Int)} {b : List Int} (h : rowS xs = some b) : b = rowsOf xs ∧ b.length ≤ 4500 ∧ Fit xs ∧ xs.length ≤ 20 := by
  unfold rowS at h
  split at h
  · cases h
  · obtain ⟨h1, h2, h3⟩ := rowGo_some xs [] b h
    exact ⟨by simpa using h1, h2, h3, by omega⟩
theorem frame_bytes (p : List Int) (hy : Bytes p) (h2 : p.length ≤ 4096) : Bytes (frame p) := by
  have hq : Bytes (hdr (p.length : Int) ++ p) := (hdr_bytes p.length h2).append hy
  refine hq.append fun x hx => ?_
  simp only [sumBytes, List.mem_map, List.mem_range] at hx
  obtain ⟨j, _, rfl⟩ := hx
  omega
theorem rows_bytes : ∀ (xs : List (List Int)), (∀ x ∈ xs, Bytes x) → Fit xs → Bytes (rowsOf xs)
  | [], _, _ => fun x hx => by simp [rowsOf] at hx
  | p :: xs, hb, hf => by
    rw [rowsOf_cons]
    exact (frame_bytes p (hb p (by simp)) (hf p (by simp)).2).append (rows_bytes xs (fun q hq => hb q (by simp [hq])) (fun q hq => hf q (by simp [hq])))
/-- Where a scan tells a first payload the bytes begin with its frame. -/
theorem getS_of_ok {b : List Int} (hy : Bytes b) (h : (getS b).2.2 = 0) : ∃ p r, b = frame p ++ r ∧ 1 ≤ p.length ∧ p.length ≤ 4096 := by
  have hok := getS_ok h
  unfold getS at h
  split at h
  · simp at h
  · rename_i h4
    split at h
    · rename_i hc
      split at h
      · simp at h
      · rename_i h8
        split at h
        · rename_i ht
          have hf := (frame_iff b hy (by omega) hc.1 hc.2.1 (by omega)).2 ht
          refine ⟨(b.take (4 + sayN b)).drop 4, b.drop (sayN b + 8), ?_, ?_, ?_⟩
          · rw [hf]; exact (List.take_append_drop _ _).symm
          · simp; omega
          · simp; omega
        · simp at h
    · simp at h
theorem sum_inj {s t : Int} (hs : 0 ≤ s ∧ s < 4294967296) (ht : 0 ≤ t ∧ t < 4294967296) (h : sumBytes s 4 = sumBytes t 4) : s = t := by
  have e : ∀ u : Int, sumBytes u 4 = [u / 256 ^ 0 % 256, u / 256 ^ 1 % 256, u / 256 ^ 2 % 256, u / 256 ^ 3 % 256] := fun u => rfl
  rw [e, e] at h
  simp only [List.cons.injEq, and_true] at h
  obtain ⟨h0, h1, h2, h3⟩ := h
  have p0 : (256 : Int) ^ 0 = 1 := rfl
  have p1 : (256 : Int) ^ 1 = 256 := rfl
  have p2 : (256 : Int) ^ 2 = 65536 := rfl
  have p3 : (256 : Int) ^ 3 = 16777216 := rfl
  rw [p0] at h0; rw [p1] at h1; rw [p2] at h2; rw [p3] at h3
  omega
theorem st_append (n : Nat) (a c : List Nat) : st n (a ++ c) = st (st n a) c := by simp [st]
theorem st_inj : ∀ (c : List Nat), (∀ x ∈ c, x < 256) → ∀ n m : Nat, n < 2 ^ 32 → m < 2 ^ 32 → st n c = st m c → n = m
  | [], _, n, m, _, _, h => h
  | x :: c, hc, n, m, hn, hm, h => by
    have h1 := st_inj c (fun y hy => hc y (by simp [hy])) _ _ (Crc.by_lt n x hn) (Crc.by_lt m x hm) h
    exact Crc.by_inj (hc x (by simp)) hn hm h1
theorem crc_turn (a c : List Int) (x y : Int) (ha : Bytes (a ++ x :: c)) (hy : 0 ≤ y ∧ y < 256) (h : crc (a ++ x :: c) = crc (a ++ y :: c)) : x = y := by
  have h1 : Bytes a := fun z hz => ha z (by simp [hz])
  have h2 : Bytes c := fun z hz => ha z (by simp [hz])
  have h3 := ha x (by simp)
  obtain ⟨na, rfl, hna⟩ := h1.nat
  obtain ⟨nc, rfl, hnc⟩ := h2.nat
  obtain ⟨nx, rfl⟩ := Int.eq_ofNat_of_zero_le h3.1
  obtain ⟨ny, rfl⟩ := Int.eq_ofNat_of_zero_le hy.1
  have hnx : nx < 256 := by omega
  have hny : ny < 256 := by omega
  have e : ∀ z : Nat, na.map (fun c : Nat => (c : Int)) ++ (z : Int) :: nc.map (fun c : Nat => (c : Int)) = (na ++ z :: nc).map (fun c : Nat => (c : Int)) := fun z => by simp
  have hb : ∀ z : Nat, z < 256 → ∀ q ∈ na ++ z :: nc, q < 256 := fun z hz q hq => by
    simp only [List.mem_append, List.mem_cons] at hq
    rcases hq with h | rfl | h
    · exact hna q h
    · exact hz
    · exact hnc q h
  have hi : (4294967295 : Nat) < 2 ^ 32 := by decide
  have e1 : crc (na.map (fun c : Nat => (c : Int)) ++ (nx : Int) :: nc.map (fun c : Nat => (c : Int))) = ((4294967295 - st 4294967295 (na ++ nx :: nc) : Nat) : Int) := by rw [e nx]; exact crc_nat _ (hb nx hnx)
  have e2 : crc (na.map (fun c : Nat => (c : Int)) ++ (ny : Int) :: nc.map (fun c : Nat => (c : Int))) = ((4294967295 - st 4294967295 (na ++ ny :: nc) : Nat) : Int) := by rw [e ny]; exact crc_nat _ (hb ny hny)
  have l1 := st_lt (na ++ nx :: nc) 4294967295 hi
  have l2 := st_lt (na ++ ny :: nc) 4294967295 hi
  have h' : ((4294967295 - st 4294967295 (na ++ nx :: nc) : Nat) : Int) = ((4294967295 - st 4294967295 (na ++ ny :: nc) : Nat) : Int) := e1.symm.trans (h.trans e2)
  have h4 : st 4294967295 (na ++ nx :: nc) = st 4294967295 (na ++ ny :: nc) := by omega
  rw [st_append, st_append] at h4
  have l3 := st_lt na 4294967295 hi
  have h5 : st (Crc.by_ (st 4294967295 na) nx) nc = st (Crc.by_ (st 4294967295 na) ny) nc := h4
  have h6 := st_inj nc hnc _ _ (Crc.by_lt _ _ l3) (Crc.by_lt _ _ l3) h5
  have h7 := Crc.by_inj_byte hnx hny l3 h6
  rw [h7]
end Go.Proofs.YtafajpjonmnjbaaDoor.Fr
