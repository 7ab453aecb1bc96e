/- The document's numbers and texts as bytes. -/
import Derived.Test.YtalkadbpdaoifaaWi11
namespace Go.Proofs.Ytalkadbpdaoifaa.AX
open Go Go.RowKit
set_option linter.unusedSimpArgs false
set_option linter.unusedVariables false
set_option maxRecDepth 100000
set_option maxHeartbeats 4000000
theorem encB_cons (x : UInt8) (l : List UInt8) : encB (x :: l) = [V.int .u8 (x.toNat : Int)] :: encB l := rfl
theorem encB_one {x : List V} {l : List UInt8} (h : x ∈ encB l) : x.length = 1 := by
  simp only [encB, List.mem_map] at h
  obtain ⟨b, -, rfl⟩ := h
  rfl
theorem rnum_aux (k : Nat) : k ≤ 4611686018427387904 → Fn Try.prog 52 [i64 (k : Int)] [] 0 (.rf 0) [(0, .row false 5 1 (encB (num k)))] 1 := by
  induction k using Nat.strongRecOn with
  | ind k ih =>
    intro hk
    by_cases h : k < 128
    · have h' := eq_true (show (k : Int) < 128 by omega)
      have e1 : num k = [UInt8.ofNat k] := by rw [num, if_pos h]
      have e2 : ((k : Int) % 256) = ((UInt8.ofNat k).toNat : Int) := by simp
      refine fn_of_aw dOk Try.func52 rfl rfl rfl rfl rfl (by simp) rfl (by simp) ?_
      simp [Try.f52, h', e1, -encB]
      all_goals (refine St.to_chk [] ?_; simp [encB])
    · have h' := eq_false (show ¬ (k : Int) < 128 by omega)
      have e1 : num k = UInt8.ofNat (k % 128 + 128) :: num (k / 128) := by rw [num, if_neg h]
      have ih' : Fn Try.prog 52 [i64 ((k : Int) / 128)] [] 0 (.rf 0) [(0, .row false 5 1 (encB (num (k / 128))))] 1 := by simpa [-encB] using ih (k / 128) (by omega) (by omega)
      have hnl := num_len (k / 128) (by omega)
      have hq1 := quo_at k (by omega)
      have ht : (k : Int).tmod 128 = ((k : Int) % 128) := Int.tmod_eq_emod_of_nonneg (by omega)
      have hw : IntKind.i64.wrap ((k : Int) % 128 + 128) = (k : Int) % 128 + 128 := wr64 (by omega) (by omega)
      have e2 : (((k : Int) % 128 + 128) % 256) = ((UInt8.ofNat (k % 128 + 128)).toNat : Int) := by
        rw [UInt8.toNat_ofNat']; omega
      have e3 : [V.int .u8 (((k : Int) % 128 + 128) % 256)] :: encB (num (k / 128)) = encB (num k) := by rw [e1, encB_cons, ← e2]
      refine fn_of_aw dOk Try.func52 rfl rfl rfl rfl rfl (by simp) rfl (by simp) ?_
      simp [Try.f52, h', ht, hw, hq1, -encB]
      repeat' (first | intro _ | with_reducible refine And.intro ?_ ?_ | exact chkI (by kernel_rfl) | exact backI (by kernel_rfl) | (refine callH (by first | ((refine ⟨?_, ?_, ?_, ?_⟩ <;> repeat' (first | exact rfl | exact Or.inl rfl | exact Or.inr rfl | exact trivial | with_reducible constructor | refine ⟨?_, ?_⟩ | (simp; done))); done) | fail) ih' ?_ <;> try simp [-encB]) | fail)
      all_goals first
        | omega
        | exact encB_one (by assumption)
        | (refine St.to_chk [(0, 2)] ?_; rw [e3]; simp [-encB]; done)
theorem c_rnum (n : Int) (h : 0 ≤ n ∧ n ≤ 4611686018427387904 := by omega) : Fn Try.prog 52 [i64 n] [] 0 (.rf 0) [(0, .row false 5 1 (encB (num n.toNat)))] 1 := by
  have := rnum_aux n.toNat (by omega)
  rwa [Int.toNat_of_nonneg h.1] at this
theorem c_rtext (s : ByteArray) (h : s.size ≤ 1000000 := by omega) : Pure Try.prog 51 [.str s] (.sl (encB (num s.size ++ s.data.toList))) := by
  have hnl := num_len s.size (by omega)
  have hd := data_len s
  refine pureQ_of_aw dOk Try.func51 rfl rfl rfl rfl rfl ?_
  simp [Try.f51, -encB]
  repeat' (first | intro _ | with_reducible refine And.intro ?_ ?_ | exact chkI (by kernel_rfl) | exact backI (by kernel_rfl) | (refine callH (by first | ((refine ⟨?_, ?_, ?_, ?_⟩ <;> repeat' (first | exact rfl | exact Or.inl rfl | exact Or.inr rfl | exact trivial | with_reducible constructor | refine ⟨?_, ?_⟩ | (simp; done))); done) | fail) (c_rnum ..) ?_ <;> try simp [-encB]) | (refine callHD (by first | ((refine ⟨?_, ?_, ?_, ?_⟩ <;> repeat' (first | exact rfl | exact Or.inl rfl | exact Or.inr rfl | exact trivial | with_reducible constructor | refine ⟨?_, ?_⟩ | (simp; done))); done) | fail) (c_rnum ..) rfl ?_ <;> try simp [-encB]) | (refine callH (by first | ((refine ⟨?_, ?_, ?_, ?_⟩ <;> repeat' (first | exact rfl | exact Or.inl rfl | exact Or.inr rfl | exact trivial | with_reducible constructor | refine ⟨?_, ?_⟩ | (simp; done))); done) | fail) (c_rnumZ ..) ?_ <;> try simp [-encB]) | (refine callHD (by first | ((refine ⟨?_, ?_, ?_, ?_⟩ <;> repeat' (first | exact rfl | exact Or.inl rfl | exact Or.inr rfl | exact trivial | with_reducible constructor | refine ⟨?_, ?_⟩ | (simp; done))); done) | fail) (c_rnumZ ..) rfl ?_ <;> try simp [-encB]) | fail)
  all_goals first | omega | exact encB_one (by assumption) | (simp [encB]; done)
theorem c_rnums (l : List Int) (hl : l.length ≤ 1000) (h : ∀ n ∈ l, 0 ≤ n ∧ n ≤ 4611686018427387904) : Pure Try.prog 50 [.sl (l.map fun a => [i64 a])] (.sl (encB (nums (l.map Int.toNat)))) := by
  refine pureQ_of_aw dOk Try.func50 rfl rfl rfl rfl rfl ?_
  simp [Try.f50, -encB]
  refine aw_loopKM (α := {i : Nat // i ≤ l.length}) [0, 2, 18] (fun i => [(4, i64 i.1), (3, .rf 0)]) (fun i => [(0, .row false 5 1 (encB (nums ((l.map Int.toNat).take i.1))))]) 1 (fun i => l.length - i.1) ⟨0, by simp⟩ ((St.to_own 3 5 1 rfl (Nat.le_refl _)).trans (St.to_chk [] (by simp [nums]))) ?_
  rintro ⟨i, j1⟩
  dsimp only
  by_cases hi : i < l.length
  · obtain ⟨x, hx⟩ := getL_some hi
    have hw := wrI hi (by omega)
    have hxr := h x (List.mem_of_getElem? hx)
    have hxn : (l.map Int.toNat)[i]? = some x.toNat := by simp [hx]
    have ht := nums_take hxn
    have hnl := num_len x.toNat (by omega)
    have hle := nums_len ((l.map Int.toNat).take i) (fun n hn => by
      obtain ⟨y, hy, rfl⟩ := List.mem_map.1 (List.mem_of_mem_take hn)
      have := h y hy
      omega)
    simp only [List.length_take, List.length_map] at hle
    have hmin : min i l.length ≤ 1000 := by omega
    simp [hx, -encB, -List.map_take]
    repeat' (first | intro _ | with_reducible refine And.intro ?_ ?_ | exact chkI (by kernel_rfl) | exact backI (by kernel_rfl) | (refine callH (by first | ((refine ⟨?_, ?_, ?_, ?_⟩ <;> repeat' (first | exact rfl | exact Or.inl rfl | exact Or.inr rfl | exact trivial | with_reducible constructor | refine ⟨?_, ?_⟩ | (simp; done))); done) | fail) (c_rnum ..) ?_ <;> try simp [hx, -encB, -List.map_take]) | (refine callHD (by first | ((refine ⟨?_, ?_, ?_, ?_⟩ <;> repeat' (first | exact rfl | exact Or.inl rfl | exact Or.inr rfl | exact trivial | with_reducible constructor | refine ⟨?_, ?_⟩ | (simp; done))); done) | fail) (c_rnum ..) rfl ?_ <;> try simp [hx, -encB, -List.map_take]) | (refine callH (by first | ((refine ⟨?_, ?_, ?_, ?_⟩ <;> repeat' (first | exact rfl | exact Or.inl rfl | exact Or.inr rfl | exact trivial | with_reducible constructor | refine ⟨?_, ?_⟩ | (simp; done))); done) | fail) (c_rnumZ ..) ?_ <;> try simp [hx, -encB, -List.map_take]) | (refine callHD (by first | ((refine ⟨?_, ?_, ?_, ?_⟩ <;> repeat' (first | exact rfl | exact Or.inl rfl | exact Or.inr rfl | exact trivial | with_reducible constructor | refine ⟨?_, ?_⟩ | (simp; done))); done) | fail) (c_rnumZ ..) rfl ?_ <;> try simp [hx, -encB, -List.map_take]) | fail)
    all_goals first
      | omega
      | exact encB_one (by assumption)
      | (refine Exists.intro (i + 1) (And.intro (by omega) (And.intro (by omega) (St.to_chk [(0, 2)] ?_))); rw [ht]; simp [hw, encB]; done)
     
  · have hle : l.length ≤ i := by omega
    rw [List.take_of_length_le (by simpa using hle)]
    simp [hi, -encB]
    repeat' (first | intro _ | with_reducible refine And.intro ?_ ?_ | exact chkI (by kernel_rfl) | exact backI (by kernel_rfl) | (refine callH (by first | ((refine ⟨?_, ?_, ?_, ?_⟩ <;> repeat' (first | exact rfl | exact Or.inl rfl | exact Or.inr rfl | exact trivial | with_reducible constructor | refine ⟨?_, ?_⟩ | (simp; done))); done) | fail) (c_rnum ..) ?_ <;> try simp [-encB]) | (refine callHD (by first | ((refine ⟨?_, ?_, ?_, ?_⟩ <;> repeat' (first | exact rfl | exact Or.inl rfl | exact Or.inr rfl | exact trivial | with_reducible constructor | refine ⟨?_, ?_⟩ | (simp; done))); done) | fail) (c_rnum ..) rfl ?_ <;> try simp [-encB]) | (refine callH (by first | ((refine ⟨?_, ?_, ?_, ?_⟩ <;> repeat' (first | exact rfl | exact Or.inl rfl | exact Or.inr rfl | exact trivial | with_reducible constructor | refine ⟨?_, ?_⟩ | (simp; done))); done) | fail) (c_rnumZ ..) ?_ <;> try simp [-encB]) | (refine callHD (by first | ((refine ⟨?_, ?_, ?_, ?_⟩ <;> repeat' (first | exact rfl | exact Or.inl rfl | exact Or.inr rfl | exact trivial | with_reducible constructor | refine ⟨?_, ?_⟩ | (simp; done))); done) | fail) (c_rnumZ ..) rfl ?_ <;> try simp [-encB]) | fail)
    all_goals first | omega
end Go.Proofs.Ytalkadbpdaoifaa.AX
