/- The document's commands as bytes. -/
import Derived.Test.YtalkadbpdaoifaaWi21
import Derived.Test.YtalkadbpdaoifaaWi15
namespace Go.Proofs.Ytalkadbpdaoifaa.AX
open Go Go.RowKit
set_option linter.unusedSimpArgs false
set_option linter.unusedVariables false
set_option maxRecDepth 100000
set_option maxHeartbeats 4000000
theorem c_rnums2 (a0 a1 : Int) (ha0 : 0 ≤ a0 ∧ a0 ≤ 4611686018427387904 := by omega) (ha1 : 0 ≤ a1 ∧ a1 ≤ 4611686018427387904 := by omega) : Pure Try.prog 50 [.sl [[i64 a0], [i64 a1]]] (.sl (encB (nums [a0.toNat, a1.toNat]))) := by
  have := c_rnums [a0, a1] (by simp) (by
    intro x hx
    simp only [List.mem_cons, List.not_mem_nil, or_false] at hx
    rcases hx with rfl | rfl <;> assumption)
  simpa only [List.map_cons, List.map_nil] using this
theorem c_rnums5 (a0 a1 a2 a3 a4 : Int) (ha0 : 0 ≤ a0 ∧ a0 ≤ 4611686018427387904 := by omega) (ha1 : 0 ≤ a1 ∧ a1 ≤ 4611686018427387904 := by omega) (ha2 : 0 ≤ a2 ∧ a2 ≤ 4611686018427387904 := by omega) (ha3 : 0 ≤ a3 ∧ a3 ≤ 4611686018427387904 := by omega) (ha4 : 0 ≤ a4 ∧ a4 ≤ 4611686018427387904 := by omega) : Pure Try.prog 50 [.sl [[i64 a0], [i64 a1], [i64 a2], [i64 a3], [i64 a4]]] (.sl (encB (nums [a0.toNat, a1.toNat, a2.toNat, a3.toNat, a4.toNat]))) := by
  have := c_rnums [a0, a1, a2, a3, a4] (by simp) (by
    intro x hx
    simp only [List.mem_cons, List.not_mem_nil, or_false] at hx
    rcases hx with rfl | rfl | rfl | rfl | rfl <;> assumption)
  simpa only [List.map_cons, List.map_nil] using this
theorem c_rnums7 (a0 a1 a2 a3 a4 a5 a6 : Int) (ha0 : 0 ≤ a0 ∧ a0 ≤ 4611686018427387904 := by omega) (ha1 : 0 ≤ a1 ∧ a1 ≤ 4611686018427387904 := by omega) (ha2 : 0 ≤ a2 ∧ a2 ≤ 4611686018427387904 := by omega) (ha3 : 0 ≤ a3 ∧ a3 ≤ 4611686018427387904 := by omega) (ha4 : 0 ≤ a4 ∧ a4 ≤ 4611686018427387904 := by omega) (ha5 : 0 ≤ a5 ∧ a5 ≤ 4611686018427387904 := by omega) (ha6 : 0 ≤ a6 ∧ a6 ≤ 4611686018427387904 := by omega) : Pure Try.prog 50 [.sl [[i64 a0], [i64 a1], [i64 a2], [i64 a3], [i64 a4], [i64 a5], [i64 a6]]] (.sl (encB (nums [a0.toNat, a1.toNat, a2.toNat, a3.toNat, a4.toNat, a5.toNat, a6.toNat]))) := by
  have := c_rnums [a0, a1, a2, a3, a4, a5, a6] (by simp) (by
    intro x hx
    simp only [List.mem_cons, List.not_mem_nil, or_false] at hx
    rcases hx with rfl | rfl | rfl | rfl | rfl | rfl | rfl <;> assumption)
  simpa only [List.map_cons, List.map_nil] using this
theorem c_rnums15 (a0 a1 a2 a3 a4 a5 a6 a7 a8 a9 a10 a11 a12 a13 a14 : Int) (ha0 : 0 ≤ a0 ∧ a0 ≤ 4611686018427387904 := by omega) (ha1 : 0 ≤ a1 ∧ a1 ≤ 4611686018427387904 := by omega) (ha2 : 0 ≤ a2 ∧ a2 ≤ 4611686018427387904 := by omega) (ha3 : 0 ≤ a3 ∧ a3 ≤ 4611686018427387904 := by omega) (ha4 : 0 ≤ a4 ∧ a4 ≤ 4611686018427387904 := by omega) (ha5 : 0 ≤ a5 ∧ a5 ≤ 4611686018427387904 := by omega) (ha6 : 0 ≤ a6 ∧ a6 ≤ 4611686018427387904 := by omega) (ha7 : 0 ≤ a7 ∧ a7 ≤ 4611686018427387904 := by omega) (ha8 : 0 ≤ a8 ∧ a8 ≤ 4611686018427387904 := by omega) (ha9 : 0 ≤ a9 ∧ a9 ≤ 4611686018427387904 := by omega) (ha10 : 0 ≤ a10 ∧ a10 ≤ 4611686018427387904 := by omega) (ha11 : 0 ≤ a11 ∧ a11 ≤ 4611686018427387904 := by omega) (ha12 : 0 ≤ a12 ∧ a12 ≤ 4611686018427387904 := by omega) (ha13 : 0 ≤ a13 ∧ a13 ≤ 4611686018427387904 := by omega) (ha14 : 0 ≤ a14 ∧ a14 ≤ 4611686018427387904 := by omega) : Pure Try.prog 50 [.sl [[i64 a0], [i64 a1], [i64 a2], [i64 a3], [i64 a4], [i64 a5], [i64 a6], [i64 a7], [i64 a8], [i64 a9], [i64 a10], [i64 a11], [i64 a12], [i64 a13], [i64 a14]]] (.sl (encB (nums [a0.toNat, a1.toNat, a2.toNat, a3.toNat, a4.toNat, a5.toNat, a6.toNat, a7.toNat, a8.toNat, a9.toNat, a10.toNat, a11.toNat, a12.toNat, a13.toNat, a14.toNat]))) := by
  have := c_rnums [a0, a1, a2, a3, a4, a5, a6, a7, a8, a9, a10, a11, a12, a13, a14] (by simp) (by
    intro x hx
    simp only [List.mem_cons, List.not_mem_nil, or_false] at hx
    rcases hx with rfl | rfl | rfl | rfl | rfl | rfl | rfl | rfl | rfl | rfl | rfl | rfl | rfl | rfl | rfl <;> assumption)
  simpa only [List.map_cons, List.map_nil] using this
theorem encB_app (p q : List UInt8) : encB (p ++ q) = encB p ++ encB q := by simp [encB]
theorem nums1 (n : Nat) : nums [n] = num n := by simp [nums]
theorem nums_split (a b : List Nat) : nums (a ++ b) = nums a ++ nums b := by
  induction a with
  | nil => rfl
  | cons x r ih => simp [nums, ih]
theorem rdsB_len {c : Cmd} (hc : c.Small) (hn : c.Num) : ∀ i, ((c.rs.take i).flatMap rdB).length ≤ 12700 := by
  have h1 := hc.rl
  have lr : ∀ r ∈ c.rs, (rdB r).length ≤ 127 := by
    intro r hr
    have a1 := hc.rk r hr
    have a2 := hn.rs r hr
    have a3 := nums_len [r.key.size] (by simp; omega)
    have a4 := nums_len [r.tm.toNat, r.ac.toNat] (by simp; omega)
    simp only [List.length_cons, List.length_nil] at a3 a4
    simp only [rdB, List.length_append, data_len]
    omega
  intro i
  have := flat_le (f := rdB) (K := 127) (l := c.rs.take i) fun x hx => lr x (List.mem_of_mem_take hx)
  simp only [List.length_take] at this
  have : min i c.rs.length ≤ 100 := by omega
  omega
theorem wrsB_len {c : Cmd} (hc : c.Small) : ∀ i, ((c.ws.take i).flatMap wrB).length ≤ 21800 := by
  have h2 := hc.wl
  have lw : ∀ w ∈ c.ws, (wrB w).length ≤ 218 := by
    intro w hw
    have a1 := hc.wk w hw
    have a3 := nums_len [w.key.size] (by simp; omega)
    have a4 := nums_len [w.val.size] (by simp; omega)
    simp only [List.length_cons, List.length_nil] at a3 a4
    simp only [wrB, List.length_append, data_len]
    omega
  intro i
  have := flat_le (f := wrB) (K := 218) (l := c.ws.take i) fun x hx => lw x (List.mem_of_mem_take hx)
  simp only [List.length_take] at this
  have : min i c.ws.length ≤ 100 := by omega
  omega
theorem c_rCmd (c : Cmd) (hc : c.Small := by assumption) (hn : c.Num := by assumption) : Pure Try.prog 21 [.agg c.cs] (.sl (encB (cmdB c))) := by
  have h1 := hc.rl
  have h2 := hc.wl
  obtain ⟨n1, n2, n3, n4, n5, n6, n7⟩ := hn
  have l7 := nums_len [c.kind.toNat, c.cl.toNat, c.nm.toNat, c.tm.toNat, c.ac.toNat, c.sh.toNat, c.rs.length] (by simp; omega)
  simp only [List.length_cons, List.length_nil] at l7
  have lr := rdsB_len hc ⟨n1, n2, n3, n4, n5, n6, n7⟩
  have lw := wrsB_len hc
  have l8 := num_len c.ws.length (by omega)
  refine pureQ_of_aw dOk Try.func21 rfl rfl rfl rfl rfl ?_
  simp [Try.f21, -encB]
  repeat' (first | intro _ | with_reducible refine And.intro ?_ ?_ | exact chkI (by kernel_rfl) | exact backI (by kernel_rfl) | (refine callH (by first | ((refine ⟨?_, ?_, ?_, ?_⟩ <;> repeat' (first | exact rfl | exact Or.inl rfl | exact Or.inr rfl | exact trivial | with_reducible constructor | refine ⟨?_, ?_⟩ | (simp; done))); done) | fail) (c_rnum ..) ?_ <;> try simp [-encB]) | (refine callHD (by first | ((refine ⟨?_, ?_, ?_, ?_⟩ <;> repeat' (first | exact rfl | exact Or.inl rfl | exact Or.inr rfl | exact trivial | with_reducible constructor | refine ⟨?_, ?_⟩ | (simp; done))); done) | fail) (c_rnum ..) rfl ?_ <;> try simp [-encB]) | (refine callH (by first | ((refine ⟨?_, ?_, ?_, ?_⟩ <;> repeat' (first | exact rfl | exact Or.inl rfl | exact Or.inr rfl | exact trivial | with_reducible constructor | refine ⟨?_, ?_⟩ | (simp; done))); done) | fail) (c_rnumZ ..) ?_ <;> try simp [-encB]) | (refine callHD (by first | ((refine ⟨?_, ?_, ?_, ?_⟩ <;> repeat' (first | exact rfl | exact Or.inl rfl | exact Or.inr rfl | exact trivial | with_reducible constructor | refine ⟨?_, ?_⟩ | (simp; done))); done) | fail) (c_rnumZ ..) rfl ?_ <;> try simp [-encB]) | (refine callA (by first | rfl | (simp; done) | (simp; rfl)) (c_rtext ..) ?_ <;> try simp [-encB]) | (refine callB (by first | rfl | (simp; done) | (simp; rfl)) (c_rtext ..) ?_ <;> try simp [-encB]) | (refine callA (by first | rfl | (simp; done) | (simp; rfl)) (c_rnums15 ..) ?_ <;> try simp [-encB]) | (refine callB (by first | rfl | (simp; done) | (simp; rfl)) (c_rnums15 ..) ?_ <;> try simp [-encB]) | (refine callA (by first | rfl | (simp; done) | (simp; rfl)) (c_rnums7 ..) ?_ <;> try simp [-encB]) | (refine callB (by first | rfl | (simp; done) | (simp; rfl)) (c_rnums7 ..) ?_ <;> try simp [-encB]) | (refine callA (by first | rfl | (simp; done) | (simp; rfl)) (c_rnums5 ..) ?_ <;> try simp [-encB]) | (refine callB (by first | rfl | (simp; done) | (simp; rfl)) (c_rnums5 ..) ?_ <;> try simp [-encB]) | (refine callA (by first | rfl | (simp; done) | (simp; rfl)) (c_rnums2 ..) ?_ <;> try simp [-encB]) | (refine callB (by first | rfl | (simp; done) | (simp; rfl)) (c_rnums2 ..) ?_ <;> try simp [-encB]) | (refine callA (by first | rfl | (simp; done) | (simp; rfl)) (c_rnums ..) ?_ <;> try simp [-encB]) | (refine callB (by first | rfl | (simp; done) | (simp; rfl)) (c_rnums ..) ?_ <;> try simp [-encB]) | fail)
  all_goals try first | omega | exact encB_one (by assumption)
  refine aw_loopKM (α := {i : Nat // i ≤ c.rs.length}) [1, 2, 5, 63, 64, 65, 66, 67, 68, 69, 70, 71, 72, 73, 74, 75, 76, 77, 78, 79, 80, 81, 82, 83, 84, 85, 86, 87, 88, 89, 90, 91, 92, 93, 94, 95, 96, 97, 98, 99, 100, 101] (fun i => [(4, i64 i.1), (3, .rf 4)]) (fun i => [(4, .row false 5 1 (encB (1 :: (nums [c.kind.toNat, c.cl.toNat, c.nm.toNat, c.tm.toNat, c.ac.toNat, c.sh.toNat, c.rs.length] ++ (c.rs.take i.1).flatMap rdB)))), (0, .box false 33 c.cs)]) 5 (fun i => c.rs.length - i.1) ⟨0, by simp⟩ (St.to_chk [(4, 3)] (by simp [encB_cons, -encB])) ?_
  rintro ⟨i, j1⟩
  dsimp only
  by_cases hi : i < c.rs.length
  · obtain ⟨x, hx⟩ := getL_some hi
    have hw := wrI hi (by omega)
    have hxm := List.mem_of_getElem? hx
    have hx1 := n7 x hxm
    have hx2 := hc.rk x hxm
    have b1 := lr i
    have b2 := num_len x.key.size (by omega)
    have b3 := nums_len [x.tm.toNat, x.ac.toNat] (by simp; omega)
    have b4 := data_len x.key
    have hm := flat_more (f := rdB) hx
    simp only [List.length_cons, List.length_nil] at b3
    simp [hx, -encB, -List.length_flatMap]
    repeat' (first | intro _ | with_reducible refine And.intro ?_ ?_ | exact chkI (by kernel_rfl) | exact backI (by kernel_rfl) | (refine callH (by first | ((refine ⟨?_, ?_, ?_, ?_⟩ <;> repeat' (first | exact rfl | exact Or.inl rfl | exact Or.inr rfl | exact trivial | with_reducible constructor | refine ⟨?_, ?_⟩ | (simp; done))); done) | fail) (c_rnum ..) ?_ <;> try simp [hx, -encB, -List.length_flatMap]) | (refine callHD (by first | ((refine ⟨?_, ?_, ?_, ?_⟩ <;> repeat' (first | exact rfl | exact Or.inl rfl | exact Or.inr rfl | exact trivial | with_reducible constructor | refine ⟨?_, ?_⟩ | (simp; done))); done) | fail) (c_rnum ..) rfl ?_ <;> try simp [hx, -encB, -List.length_flatMap]) | (refine callH (by first | ((refine ⟨?_, ?_, ?_, ?_⟩ <;> repeat' (first | exact rfl | exact Or.inl rfl | exact Or.inr rfl | exact trivial | with_reducible constructor | refine ⟨?_, ?_⟩ | (simp; done))); done) | fail) (c_rnumZ ..) ?_ <;> try simp [hx, -encB, -List.length_flatMap]) | (refine callHD (by first | ((refine ⟨?_, ?_, ?_, ?_⟩ <;> repeat' (first | exact rfl | exact Or.inl rfl | exact Or.inr rfl | exact trivial | with_reducible constructor | refine ⟨?_, ?_⟩ | (simp; done))); done) | fail) (c_rnumZ ..) rfl ?_ <;> try simp [hx, -encB, -List.length_flatMap]) | (refine callA (by first | rfl | (simp; done) | (simp; rfl)) (c_rtext ..) ?_ <;> try simp [hx, -encB, -List.length_flatMap]) | (refine callB (by first | rfl | (simp; done) | (simp; rfl)) (c_rtext ..) ?_ <;> try simp [hx, -encB, -List.length_flatMap]) | (refine callA (by first | rfl | (simp; done) | (simp; rfl)) (c_rnums15 ..) ?_ <;> try simp [hx, -encB, -List.length_flatMap]) | (refine callB (by first | rfl | (simp; done) | (simp; rfl)) (c_rnums15 ..) ?_ <;> try simp [hx, -encB, -List.length_flatMap]) | (refine callA (by first | rfl | (simp; done) | (simp; rfl)) (c_rnums7 ..) ?_ <;> try simp [hx, -encB, -List.length_flatMap]) | (refine callB (by first | rfl | (simp; done) | (simp; rfl)) (c_rnums7 ..) ?_ <;> try simp [hx, -encB, -List.length_flatMap]) | (refine callA (by first | rfl | (simp; done) | (simp; rfl)) (c_rnums5 ..) ?_ <;> try simp [hx, -encB, -List.length_flatMap]) | (refine callB (by first | rfl | (simp; done) | (simp; rfl)) (c_rnums5 ..) ?_ <;> try simp [hx, -encB, -List.length_flatMap]) | (refine callA (by first | rfl | (simp; done) | (simp; rfl)) (c_rnums2 ..) ?_ <;> try simp [hx, -encB, -List.length_flatMap]) | (refine callB (by first | rfl | (simp; done) | (simp; rfl)) (c_rnums2 ..) ?_ <;> try simp [hx, -encB, -List.length_flatMap]) | (refine callA (by first | rfl | (simp; done) | (simp; rfl)) (c_rnums ..) ?_ <;> try simp [hx, -encB, -List.length_flatMap]) | (refine callB (by first | rfl | (simp; done) | (simp; rfl)) (c_rnums ..) ?_ <;> try simp [hx, -encB, -List.length_flatMap]) | fail)
    all_goals first
      | omega
      | exact encB_one (by assumption)
      | (refine Exists.intro (i + 1) (And.intro (by omega) (And.intro (by omega) (St.to_chk [(4, 23)] ?_))); rw [hm]; simp [hw, rdB, nums1, encB_cons, encB_app, -encB]; done)
  · have hle : c.rs.length ≤ i := by omega
    rw [List.take_of_length_le hle]
    have ltot := lr c.rs.length
    rw [List.take_length] at ltot
    simp [hi, -encB, -List.length_flatMap]
    repeat' (first | intro _ | with_reducible refine And.intro ?_ ?_ | exact chkI (by kernel_rfl) | exact backI (by kernel_rfl) | (refine callH (by first | ((refine ⟨?_, ?_, ?_, ?_⟩ <;> repeat' (first | exact rfl | exact Or.inl rfl | exact Or.inr rfl | exact trivial | with_reducible constructor | refine ⟨?_, ?_⟩ | (simp; done))); done) | fail) (c_rnum ..) ?_ <;> try simp [-encB, -List.length_flatMap]) | (refine callHD (by first | ((refine ⟨?_, ?_, ?_, ?_⟩ <;> repeat' (first | exact rfl | exact Or.inl rfl | exact Or.inr rfl | exact trivial | with_reducible constructor | refine ⟨?_, ?_⟩ | (simp; done))); done) | fail) (c_rnum ..) rfl ?_ <;> try simp [-encB, -List.length_flatMap]) | (refine callH (by first | ((refine ⟨?_, ?_, ?_, ?_⟩ <;> repeat' (first | exact rfl | exact Or.inl rfl | exact Or.inr rfl | exact trivial | with_reducible constructor | refine ⟨?_, ?_⟩ | (simp; done))); done) | fail) (c_rnumZ ..) ?_ <;> try simp [-encB, -List.length_flatMap]) | (refine callHD (by first | ((refine ⟨?_, ?_, ?_, ?_⟩ <;> repeat' (first | exact rfl | exact Or.inl rfl | exact Or.inr rfl | exact trivial | with_reducible constructor | refine ⟨?_, ?_⟩ | (simp; done))); done) | fail) (c_rnumZ ..) rfl ?_ <;> try simp [-encB, -List.length_flatMap]) | (refine callA (by first | rfl | (simp; done) | (simp; rfl)) (c_rtext ..) ?_ <;> try simp [-encB, -List.length_flatMap]) | (refine callB (by first | rfl | (simp; done) | (simp; rfl)) (c_rtext ..) ?_ <;> try simp [-encB, -List.length_flatMap]) | (refine callA (by first | rfl | (simp; done) | (simp; rfl)) (c_rnums15 ..) ?_ <;> try simp [-encB, -List.length_flatMap]) | (refine callB (by first | rfl | (simp; done) | (simp; rfl)) (c_rnums15 ..) ?_ <;> try simp [-encB, -List.length_flatMap]) | (refine callA (by first | rfl | (simp; done) | (simp; rfl)) (c_rnums7 ..) ?_ <;> try simp [-encB, -List.length_flatMap]) | (refine callB (by first | rfl | (simp; done) | (simp; rfl)) (c_rnums7 ..) ?_ <;> try simp [-encB, -List.length_flatMap]) | (refine callA (by first | rfl | (simp; done) | (simp; rfl)) (c_rnums5 ..) ?_ <;> try simp [-encB, -List.length_flatMap]) | (refine callB (by first | rfl | (simp; done) | (simp; rfl)) (c_rnums5 ..) ?_ <;> try simp [-encB, -List.length_flatMap]) | (refine callA (by first | rfl | (simp; done) | (simp; rfl)) (c_rnums2 ..) ?_ <;> try simp [-encB, -List.length_flatMap]) | (refine callB (by first | rfl | (simp; done) | (simp; rfl)) (c_rnums2 ..) ?_ <;> try simp [-encB, -List.length_flatMap]) | (refine callA (by first | rfl | (simp; done) | (simp; rfl)) (c_rnums ..) ?_ <;> try simp [-encB, -List.length_flatMap]) | (refine callB (by first | rfl | (simp; done) | (simp; rfl)) (c_rnums ..) ?_ <;> try simp [-encB, -List.length_flatMap]) | fail)
    all_goals try first | omega | exact encB_one (by assumption)
    refine aw_loopKM (α := {i : Nat // i ≤ c.ws.length}) [1, 2, 94, 95, 96, 97, 98, 99, 100, 101] (fun i => [(5, i64 i.1), (3, .rf 7)]) (fun i => [(7, .row false 5 1 (encB (1 :: (nums [c.kind.toNat, c.cl.toNat, c.nm.toNat, c.tm.toNat, c.ac.toNat, c.sh.toNat, c.rs.length] ++ (c.rs.flatMap rdB ++ (num c.ws.length ++ (c.ws.take i.1).flatMap wrB)))))), (0, .box false 33 c.cs)]) 8 (fun i => c.ws.length - i.1) ⟨0, by simp⟩ (St.to_chk [(7, 6)] (by simp [encB_cons, encB_app, -encB])) ?_
    rintro ⟨q, k1⟩
    dsimp only
    by_cases hq : q < c.ws.length
    · obtain ⟨x, hx⟩ := getL_some hq
      have hw := wrI hq (by omega)
      have hxm := List.mem_of_getElem? hx
      have hx2 := hc.wk x hxm
      have b1 := lw q
      have b2 := num_len x.key.size (by omega)
      have b3 := num_len x.val.size (by omega)
      have b4 := data_len x.key
      have b5 := data_len x.val
      have hm := flat_more (f := wrB) hx
      simp [hx, -encB, -List.length_flatMap]
      repeat' (first | intro _ | with_reducible refine And.intro ?_ ?_ | exact chkI (by kernel_rfl) | exact backI (by kernel_rfl) | (refine callH (by first | ((refine ⟨?_, ?_, ?_, ?_⟩ <;> repeat' (first | exact rfl | exact Or.inl rfl | exact Or.inr rfl | exact trivial | with_reducible constructor | refine ⟨?_, ?_⟩ | (simp; done))); done) | fail) (c_rnum ..) ?_ <;> try simp [hx, -encB, -List.length_flatMap]) | (refine callHD (by first | ((refine ⟨?_, ?_, ?_, ?_⟩ <;> repeat' (first | exact rfl | exact Or.inl rfl | exact Or.inr rfl | exact trivial | with_reducible constructor | refine ⟨?_, ?_⟩ | (simp; done))); done) | fail) (c_rnum ..) rfl ?_ <;> try simp [hx, -encB, -List.length_flatMap]) | (refine callH (by first | ((refine ⟨?_, ?_, ?_, ?_⟩ <;> repeat' (first | exact rfl | exact Or.inl rfl | exact Or.inr rfl | exact trivial | with_reducible constructor | refine ⟨?_, ?_⟩ | (simp; done))); done) | fail) (c_rnumZ ..) ?_ <;> try simp [hx, -encB, -List.length_flatMap]) | (refine callHD (by first | ((refine ⟨?_, ?_, ?_, ?_⟩ <;> repeat' (first | exact rfl | exact Or.inl rfl | exact Or.inr rfl | exact trivial | with_reducible constructor | refine ⟨?_, ?_⟩ | (simp; done))); done) | fail) (c_rnumZ ..) rfl ?_ <;> try simp [hx, -encB, -List.length_flatMap]) | (refine callA (by first | rfl | (simp; done) | (simp; rfl)) (c_rtext ..) ?_ <;> try simp [hx, -encB, -List.length_flatMap]) | (refine callB (by first | rfl | (simp; done) | (simp; rfl)) (c_rtext ..) ?_ <;> try simp [hx, -encB, -List.length_flatMap]) | (refine callA (by first | rfl | (simp; done) | (simp; rfl)) (c_rnums15 ..) ?_ <;> try simp [hx, -encB, -List.length_flatMap]) | (refine callB (by first | rfl | (simp; done) | (simp; rfl)) (c_rnums15 ..) ?_ <;> try simp [hx, -encB, -List.length_flatMap]) | (refine callA (by first | rfl | (simp; done) | (simp; rfl)) (c_rnums7 ..) ?_ <;> try simp [hx, -encB, -List.length_flatMap]) | (refine callB (by first | rfl | (simp; done) | (simp; rfl)) (c_rnums7 ..) ?_ <;> try simp [hx, -encB, -List.length_flatMap]) | (refine callA (by first | rfl | (simp; done) | (simp; rfl)) (c_rnums5 ..) ?_ <;> try simp [hx, -encB, -List.length_flatMap]) | (refine callB (by first | rfl | (simp; done) | (simp; rfl)) (c_rnums5 ..) ?_ <;> try simp [hx, -encB, -List.length_flatMap]) | (refine callA (by first | rfl | (simp; done) | (simp; rfl)) (c_rnums2 ..) ?_ <;> try simp [hx, -encB, -List.length_flatMap]) | (refine callB (by first | rfl | (simp; done) | (simp; rfl)) (c_rnums2 ..) ?_ <;> try simp [hx, -encB, -List.length_flatMap]) | (refine callA (by first | rfl | (simp; done) | (simp; rfl)) (c_rnums ..) ?_ <;> try simp [hx, -encB, -List.length_flatMap]) | (refine callB (by first | rfl | (simp; done) | (simp; rfl)) (c_rnums ..) ?_ <;> try simp [hx, -encB, -List.length_flatMap]) | fail)
      all_goals first
        | omega
        | exact encB_one (by assumption)
        | (refine Exists.intro (q + 1) (And.intro (by omega) (And.intro (by omega) (St.to_chk [(7, 9)] ?_))); rw [hm]; simp [hw, wrB, nums1, encB_cons, encB_app, -encB]; done)
    · have hle : c.ws.length ≤ q := by omega
      rw [List.take_of_length_le hle]
      have ltot2 := lw c.ws.length
      rw [List.take_length] at ltot2
      simp [hq, -encB, -List.length_flatMap]
      repeat' (first | intro _ | with_reducible refine And.intro ?_ ?_ | exact chkI (by kernel_rfl) | exact backI (by kernel_rfl) | (refine callH (by first | ((refine ⟨?_, ?_, ?_, ?_⟩ <;> repeat' (first | exact rfl | exact Or.inl rfl | exact Or.inr rfl | exact trivial | with_reducible constructor | refine ⟨?_, ?_⟩ | (simp; done))); done) | fail) (c_rnum ..) ?_ <;> try simp [-encB, -List.length_flatMap]) | (refine callHD (by first | ((refine ⟨?_, ?_, ?_, ?_⟩ <;> repeat' (first | exact rfl | exact Or.inl rfl | exact Or.inr rfl | exact trivial | with_reducible constructor | refine ⟨?_, ?_⟩ | (simp; done))); done) | fail) (c_rnum ..) rfl ?_ <;> try simp [-encB, -List.length_flatMap]) | (refine callH (by first | ((refine ⟨?_, ?_, ?_, ?_⟩ <;> repeat' (first | exact rfl | exact Or.inl rfl | exact Or.inr rfl | exact trivial | with_reducible constructor | refine ⟨?_, ?_⟩ | (simp; done))); done) | fail) (c_rnumZ ..) ?_ <;> try simp [-encB, -List.length_flatMap]) | (refine callHD (by first | ((refine ⟨?_, ?_, ?_, ?_⟩ <;> repeat' (first | exact rfl | exact Or.inl rfl | exact Or.inr rfl | exact trivial | with_reducible constructor | refine ⟨?_, ?_⟩ | (simp; done))); done) | fail) (c_rnumZ ..) rfl ?_ <;> try simp [-encB, -List.length_flatMap]) | (refine callA (by first | rfl | (simp; done) | (simp; rfl)) (c_rtext ..) ?_ <;> try simp [-encB, -List.length_flatMap]) | (refine callB (by first | rfl | (simp; done) | (simp; rfl)) (c_rtext ..) ?_ <;> try simp [-encB, -List.length_flatMap]) | (refine callA (by first | rfl | (simp; done) | (simp; rfl)) (c_rnums15 ..) ?_ <;> try simp [-encB, -List.length_flatMap]) | (refine callB (by first | rfl | (simp; done) | (simp; rfl)) (c_rnums15 ..) ?_ <;> try simp [-encB, -List.length_flatMap]) | (refine callA (by first | rfl | (simp; done) | (simp; rfl)) (c_rnums7 ..) ?_ <;> try simp [-encB, -List.length_flatMap]) | (refine callB (by first | rfl | (simp; done) | (simp; rfl)) (c_rnums7 ..) ?_ <;> try simp [-encB, -List.length_flatMap]) | (refine callA (by first | rfl | (simp; done) | (simp; rfl)) (c_rnums5 ..) ?_ <;> try simp [-encB, -List.length_flatMap]) | (refine callB (by first | rfl | (simp; done) | (simp; rfl)) (c_rnums5 ..) ?_ <;> try simp [-encB, -List.length_flatMap]) | (refine callA (by first | rfl | (simp; done) | (simp; rfl)) (c_rnums2 ..) ?_ <;> try simp [-encB, -List.length_flatMap]) | (refine callB (by first | rfl | (simp; done) | (simp; rfl)) (c_rnums2 ..) ?_ <;> try simp [-encB, -List.length_flatMap]) | (refine callA (by first | rfl | (simp; done) | (simp; rfl)) (c_rnums ..) ?_ <;> try simp [-encB, -List.length_flatMap]) | (refine callB (by first | rfl | (simp; done) | (simp; rfl)) (c_rnums ..) ?_ <;> try simp [-encB, -List.length_flatMap]) | fail)
      all_goals first
        | omega
        | exact encB_one (by assumption)
        | (simp [cmdB, nums1, encB_cons, encB_app, *]; done)
end Go.Proofs.Ytalkadbpdaoifaa.AX
