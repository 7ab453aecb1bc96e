/- Contracts over frames: the reference's Frame, Size, and what 'own' left as a row of the call's own. -/
import Derived.Test.YtafajpjonmnjbaaDoorLSums
namespace Go.Proofs.YtafajpjonmnjbaaDoor.Fr
open Go.RowKit Go.Proofs.YtafajpjonmnjbaaDoorW.PrintWords Go.Proofs.YtafajpjonmnjbaaDoorW.PrintLast Go.Proofs.YtafajpjonmnjbaaDoorW.PrintMore Go.Proofs.YtafajpjonmnjbaaDoor.Kit Go.Proofs.YtafajpjonmnjbaaDoor.PFrameGets
set_option linter.unusedVariables false
set_option linter.unusedSimpArgs false
theorem not8_eq (x : Int) (h0 : 0 ≤ x) (h1 : x < 256) : not8 x = 255 - x := by
  obtain ⟨n, rfl⟩ := Int.eq_ofNat_of_zero_le h0
  have hn : n < 256 := by omega
  have key : ∀ n : Fin 256, not8 ((n : Nat) : Int) = 255 - ((n : Nat) : Int) := by decide +kernel
  exact key ⟨n, hn⟩
theorem hdr_bytes (n : Nat) (h : n ≤ 4096) : Bytes (hdr n) := by
  intro x hx
  simp only [hdr, List.mem_cons, List.not_mem_nil, or_false] at hx
  rcases hx with rfl | rfl | rfl | rfl
  · omega
  · omega
  · rw [not8_eq _ (by omega) (by omega)]; omega
  · rw [not8_eq _ (by omega) (by omega)]; omega
theorem Bytes.append {a b : List Int} (ha : Bytes a) (hb : Bytes b) : Bytes (a ++ b) := fun x hx => by
  rcases List.mem_append.1 hx with h | h
  · exact ha x h
  · exact hb x h
theorem crc_range (l : List Int) (h : Bytes l) : 0 ≤ crc l ∧ crc l < 4294967296 := by
  obtain ⟨m, rfl, hm⟩ := h.nat
  rw [crc_nat m hm]; omega
theorem ref_tail (y : List Int) (s : Int) (hs : 0 ≤ s) (h4 : s < 4294967296) (hy : y.length ≤ 10000) (d : Nat) : ∀ (k i : Nat), i ≤ 4 → 4 - i = d → d < k →
    althingref06_Frame.l0 k (y ++ sumBytes s i) (s / 256 ^ i) (i : Int) = some (y ++ sumBytes s 4) := by
  induction d with
  | zero =>
    intro k i hi hd hk
    obtain ⟨k, rfl⟩ : ∃ j, k = j + 1 := ⟨k - 1, by omega⟩
    have : i = 4 := by omega
    subst this
    simp only [althingref06_Frame.l0]
    rw [if_neg (by omega)]
  | succ d ih =>
    intro k i hi hd hk
    obtain ⟨k, rfl⟩ : ∃ j, k = j + 1 := ⟨k - 1, by omega⟩
    have hq0 : 0 ≤ s / 256 ^ i := Int.ediv_nonneg hs (Int.pow_nonneg (by omega))
    have hq1 : s / 256 ^ i ≤ s := Int.ediv_le_self _ hs
    have w : wrap64 ((i : Int) + 1) = ((i + 1 : Nat) : Int) := by unfold wrap64; omega
    have e1 : Int.tmod (s / 256 ^ i) 256 % 256 = s / 256 ^ i % 256 := by rw [Int.tmod_eq_emod_of_nonneg hq0]; omega
    have e2 : Int.tdiv (s / 256 ^ i) 256 % 4294967296 = s / 256 ^ (i + 1) := by
      rw [Int.tdiv_eq_ediv_of_nonneg hq0, ← div_pow256]
      generalize s / 256 ^ i = q at *
      omega
    have hl : (y ++ sumBytes s i).length < 140737488355328 := by simp [sumBytes]; omega
    simp only [althingref06_Frame.l0]
    rw [if_pos (by omega), if_pos hl, e1, e2, w, List.append_assoc, ← sumBytes_succ, ih k (i + 1) (by omega) (by omega) (by omega)]
theorem ref_frame (l : List Int) (h : Bytes l) (h1 : 1 ≤ l.length) (h2 : l.length ≤ 4096) : ∃ k, althingref06_Frame.f k l = some (frame l) := by
  have hB : Bytes (hdr l.length ++ l) := (hdr_bytes _ h2).append h
  have hcr := crc_range _ hB
  obtain ⟨k0, hk0⟩ := ref_sum (hdr l.length ++ l) hB (by simp [hdr]; omega)
  refine ⟨k0 + 5, ?_⟩
  have hk := at_rounds (althingref06_Sum.mono (hdr l.length ++ l)) (show k0 ≤ k0 + 5 by omega) hk0
  have w1 : wrap64 ((l.length : Int) / 256) = (l.length : Int) / 256 := by unfold wrap64; omega
  have w2 : wrap64 (255 - (l.length : Int) / 256) = 255 - (l.length : Int) / 256 := by unfold wrap64; omega
  have e : ([(l.length : Int) % 256, (wrap64 ((l.length : Int) / 256)) % 256, 255 - ((l.length : Int) % 256), (wrap64 (255 - (wrap64 ((l.length : Int) / 256)))) % 256] : List Int) = hdr l.length := by
    rw [w1, w2, hdr, not8_eq _ (by omega) (by omega), not8_eq _ (by omega) (by omega)]
    congr 1
    congr 1
    · omega
    · congr 1
      congr 1
      omega
  unfold althingref06_Frame.f
  rw [e]
  simp only [Option.bind_some]
  rw [if_pos (by simp [hdr]; omega), hk]
  simp only [Option.bind_some]
  have := ref_tail (hdr l.length ++ l) (crc (hdr l.length ++ l)) hcr.1 hcr.2 (by simp [hdr]; omega) 4 (k0 + 5) 0 (by omega) (by omega) (by omega)
  simpa [sumBytes, frame] using this
theorem ref_frame_calls (A0 : Option Addr) (c0 : Nat) (l0 : List Int) (w : World) (hr0 : Kd.C (Kd.int .u8) w A0 l0.length l0) (hc0 : l0.length ≤ c0) (h : Bytes l0) (h1 : 1 ≤ l0.length) (h2 : l0.length ≤ 4096) :
    Calls Tryd.prog 16 #[.slice A0 l0.length c0] w fun e w' => ∃ v : Value, e = .returned v ∧ Own .u8 5 w' w.heap.size v (frame l0) ∧ Below w.heap.size w w' := by
  obtain ⟨k, hk⟩ := ref_frame l0 h h1 h2
  exact althingref06_Frame.calls k A0 c0 l0 (frame l0) w hr0 hc0 hk
def sizeOfN (n : Int) : Int := if 1 ≤ n ∧ n ≤ 4096 then n + 8 else 0
theorem size_calls (n : Int) (w : World) : Calls Tryd.prog 15 #[.int .i64 n] w fun e w' => e = .returned (.int .i64 (sizeOfN n)) ∧ Drawn0 w w' := by
  refine frame_Size.calls n (sizeOfN n) w ?_
  unfold frame_Size.f frame_may.f sizeOfN
  by_cases h : 1 ≤ n
  · by_cases h2 : n ≤ 4096
    · have w1 : wrap64 (4 + n) = 4 + n := by unfold wrap64; omega
      have w2 : wrap64 (4 + n + 4) = n + 8 := by unfold wrap64; omega
      simp [h, h2, w1, w2]
    · simp [h, h2]
  · simp [h]
/-- A block at whose head a row lies, with room behind, is a row of the call's own. -/
theorem own_of_block {w : World} {base g n cap : Nat} {l : List Int} {zs : List Value} (h : w.heap[g]? = some (.cells (nums .u8 l ++ zs).toArray 5 (0, 0))) (hb : base ≤ g) (hn : l.length = n) (hc : n + zs.length = cap) (hm : cap ≤ maxLen) :
    Own .u8 5 w base (.slice (some ⟨g, 0, none⟩) n cap) l := by
  refine ⟨fun _ _ => trivial, nums .u8 l, ⟨by simp [nums, Kd.int, Kd.scalar], .inr ⟨g, cap, _, by rw [hn], hb, h, by omega, hm, by simp [nums, Kd.int, Kd.scalar]; omega, by simp [nums, Kd.int, Kd.scalar]⟩⟩, ?_⟩
  clear h hn
  induction l with
  | nil => exact Reps.none _ _
  | cons x xs ih => exact Reps.one (show Kd.M (Kd.int .u8) _ _ _ x [.int .u8 x] from rfl) ih
end Go.Proofs.YtafajpjonmnjbaaDoor.Fr
