/- A command put behind some bytes. -/
import Derived.Test.YtalkadbpdaoifaaWi11
namespace Go.Proofs.Ytalkadbpdaoifaa.AX
open Go Go.RowKit
set_option linter.unusedSimpArgs false
set_option linter.unusedVariables false
set_option maxRecDepth 100000
set_option maxHeartbeats 4000000
structure Cmd.Num (c : Cmd) : Prop where
  kind : 0 ≤ c.kind ∧ c.kind ≤ 4611686018427387904
  cl : 0 ≤ c.cl ∧ c.cl ≤ 4611686018427387904
  nm : 0 ≤ c.nm ∧ c.nm ≤ 4611686018427387904
  tm : 0 ≤ c.tm ∧ c.tm ≤ 4611686018427387904
  ac : 0 ≤ c.ac ∧ c.ac ≤ 4611686018427387904
  sh : 0 ≤ c.sh ∧ c.sh ≤ 4611686018427387904
  rs : ∀ r ∈ c.rs, (0 ≤ r.tm ∧ r.tm ≤ 4611686018427387904) ∧ (0 ≤ r.ac ∧ r.ac ≤ 4611686018427387904)
theorem enc1 (p : List UInt8) : encB p ++ [[V.int .u8 1]] = encB (p ++ [1]) := by simp [encB]
theorem enc2 (p : List UInt8) : encB p ++ [[V.int .u8 2]] = encB (p ++ [2]) := by simp [encB]
theorem flat_le {α : Type} {f : α → List UInt8} {K : Nat} : ∀ {l : List α}, (∀ x ∈ l, (f x).length ≤ K) → (l.flatMap f).length ≤ K * l.length
  | [], _ => by simp
  | x :: r, h => by
    have := flat_le (f := f) (l := r) fun y hy => h y (by simp [hy])
    have := h x (by simp)
    simp only [List.flatMap_cons, List.length_append, List.length_cons, Nat.mul_succ]
    omega
theorem flat_more {α : Type} {f : α → List UInt8} {l : List α} {i : Nat} {x : α} (h : l[i]? = some x) : (l.take (i + 1)).flatMap f = (l.take i).flatMap f ++ f x := by
  rw [List.take_add_one, h]; simp
theorem c_putCmd (p : List UInt8) (c : Cmd) (hc : c.Small := by assumption) (hn : c.Num := by assumption) (hp : p.length ≤ 1000000 := by first | omega | (simp only [List.length_append, List.length_cons, List.length_nil]; omega)) :
    Fn Try.prog 43 [.rf 0, .agg c.cs] [(0, .row false 5 1 (encB p))] 1 (.rf 1) [(1, .row false 5 1 (encB (p ++ cmdB c))), (0, .gone)] 2 := by
  have h1 := hc.rl
  have h2 := hc.wl
  obtain ⟨n1, n2, n3, n4, n5, n6, n7⟩ := hn
  have l7 := nums_len [c.kind.toNat, c.cl.toNat, c.nm.toNat, c.tm.toNat, c.ac.toNat, c.sh.toNat, c.rs.length] (by simp; omega)
  simp only [List.length_cons, List.length_nil] at l7
  have lr : ∀ r ∈ c.rs, (rdB r).length ≤ 127 := by
    intro r hr
    have a1 := hc.rk r hr
    have a2 := n7 r hr
    have a3 := nums_len [r.key.size] (by simp; omega)
    have a4 := nums_len [r.tm.toNat, r.ac.toNat] (by simp; omega)
    simp only [List.length_cons, List.length_nil] at a3 a4
    simp only [rdB, List.length_append, data_len]
    omega
  have lrs : ∀ i, ((c.rs.take i).flatMap rdB).length ≤ 12700 := by
    intro i
    have := flat_le (f := rdB) (K := 127) (l := c.rs.take i) fun x hx => lr x (List.mem_of_mem_take hx)
    simp only [List.length_take] at this
    have : min i c.rs.length ≤ 100 := by omega
    omega
  have lw : ∀ w ∈ c.ws, (wrB w).length ≤ 218 := by
    intro w hw
    have a1 := hc.wk w hw
    have a3 := nums_len [w.key.size] (by simp; omega)
    have a4 := nums_len [w.val.size] (by simp; omega)
    simp only [List.length_cons, List.length_nil] at a3 a4
    simp only [wrB, List.length_append, data_len]
    omega
  have lws : ∀ i, ((c.ws.take i).flatMap wrB).length ≤ 21800 := by
    intro i
    have := flat_le (f := wrB) (K := 218) (l := c.ws.take i) fun x hx => lw x (List.mem_of_mem_take hx)
    simp only [List.length_take] at this
    have : min i c.ws.length ≤ 100 := by omega
    omega
  have l8 := nums_len [c.ws.length] (by simp; omega)
  simp only [List.length_cons, List.length_nil] at l8
  refine fn_of_aw dOk Try.func43 rfl rfl rfl rfl rfl (by simp) rfl (by simp) ?_
  simp [Try.f43, -encB, enc1]
  repeat' (first | intro _ | with_reducible refine And.intro ?_ ?_ | exact chkI (by kernel_rfl) | exact backI (by kernel_rfl) | (refine callH (by first | ((refine ⟨?_, ?_, ?_, ?_⟩ <;> repeat' (first | exact rfl | exact Or.inl rfl | exact Or.inr rfl | exact trivial | with_reducible constructor | refine ⟨?_, ?_⟩ | (simp; done))); done) | fail) (c_numbers7 ..) ?_ <;> try simp [-encB, enc1]) | (refine callHD (by first | ((refine ⟨?_, ?_, ?_, ?_⟩ <;> repeat' (first | exact rfl | exact Or.inl rfl | exact Or.inr rfl | exact trivial | with_reducible constructor | refine ⟨?_, ?_⟩ | (simp; done))); done) | fail) (c_numbers7 ..) rfl ?_ <;> try simp [-encB, enc1]) | (refine callH (by first | ((refine ⟨?_, ?_, ?_, ?_⟩ <;> repeat' (first | exact rfl | exact Or.inl rfl | exact Or.inr rfl | exact trivial | with_reducible constructor | refine ⟨?_, ?_⟩ | (simp; done))); done) | fail) (c_numbers2 ..) ?_ <;> try simp [-encB, enc1]) | (refine callHD (by first | ((refine ⟨?_, ?_, ?_, ?_⟩ <;> repeat' (first | exact rfl | exact Or.inl rfl | exact Or.inr rfl | exact trivial | with_reducible constructor | refine ⟨?_, ?_⟩ | (simp; done))); done) | fail) (c_numbers2 ..) rfl ?_ <;> try simp [-encB, enc1]) | (refine callH (by first | ((refine ⟨?_, ?_, ?_, ?_⟩ <;> repeat' (first | exact rfl | exact Or.inl rfl | exact Or.inr rfl | exact trivial | with_reducible constructor | refine ⟨?_, ?_⟩ | (simp; done))); done) | fail) (c_numbers1 ..) ?_ <;> try simp [-encB, enc1]) | (refine callHD (by first | ((refine ⟨?_, ?_, ?_, ?_⟩ <;> repeat' (first | exact rfl | exact Or.inl rfl | exact Or.inr rfl | exact trivial | with_reducible constructor | refine ⟨?_, ?_⟩ | (simp; done))); done) | fail) (c_numbers1 ..) rfl ?_ <;> try simp [-encB, enc1]) | (refine callH (by first | ((refine ⟨?_, ?_, ?_, ?_⟩ <;> repeat' (first | exact rfl | exact Or.inl rfl | exact Or.inr rfl | exact trivial | with_reducible constructor | refine ⟨?_, ?_⟩ | (simp; done))); done) | fail) (c_numbers ..) ?_ <;> try simp [-encB, enc1]) | (refine callHD (by first | ((refine ⟨?_, ?_, ?_, ?_⟩ <;> repeat' (first | exact rfl | exact Or.inl rfl | exact Or.inr rfl | exact trivial | with_reducible constructor | refine ⟨?_, ?_⟩ | (simp; done))); done) | fail) (c_numbers ..) rfl ?_ <;> try simp [-encB, enc1]) | (refine callH (by first | ((refine ⟨?_, ?_, ?_, ?_⟩ <;> repeat' (first | exact rfl | exact Or.inl rfl | exact Or.inr rfl | exact trivial | with_reducible constructor | refine ⟨?_, ?_⟩ | (simp; done))); done) | fail) (c_text ..) ?_ <;> try simp [-encB, enc1]) | (refine callHD (by first | ((refine ⟨?_, ?_, ?_, ?_⟩ <;> repeat' (first | exact rfl | exact Or.inl rfl | exact Or.inr rfl | exact trivial | with_reducible constructor | refine ⟨?_, ?_⟩ | (simp; done))); done) | fail) (c_text ..) rfl ?_ <;> try simp [-encB, enc1]) | (refine callH (by first | ((refine ⟨?_, ?_, ?_, ?_⟩ <;> repeat' (first | exact rfl | exact Or.inl rfl | exact Or.inr rfl | exact trivial | with_reducible constructor | refine ⟨?_, ?_⟩ | (simp; done))); done) | fail) (c_truth ..) ?_ <;> try simp [-encB, enc1]) | (refine callHD (by first | ((refine ⟨?_, ?_, ?_, ?_⟩ <;> repeat' (first | exact rfl | exact Or.inl rfl | exact Or.inr rfl | exact trivial | with_reducible constructor | refine ⟨?_, ?_⟩ | (simp; done))); done) | fail) (c_truth ..) rfl ?_ <;> try simp [-encB, enc1]) | fail)
  all_goals try omega
  refine aw_loopKM (α := {i : Nat // i ≤ c.rs.length}) [3, 4, 8, 34, 35, 53, 54, 55, 56, 57, 58, 59, 60, 61, 62, 63, 64, 65, 66, 67, 68, 69, 70, 71, 72, 73, 74, 75, 76, 77] (fun i => [(36, i64 i.1), (0, .rf 27)]) (fun i => [(27, .row false 5 1 (encB (p ++ 1 :: (nums [c.kind.toNat, c.cl.toNat, c.nm.toNat, c.tm.toNat, c.ac.toNat, c.sh.toNat, c.rs.length] ++ (c.rs.take i.1).flatMap rdB)))), (0, .gone), (1, .box false 33 c.cs)]) 28 (fun i => c.rs.length - i.1) ⟨0, by simp⟩ (St.to_chk [(27, 25)] (by simp [-encB])) ?_
  rintro ⟨i, j1⟩
  dsimp only
  by_cases hi : i < c.rs.length
  · obtain ⟨x, hx⟩ := getL_some hi
    have hw := wrI hi (by omega)
    have hxm := List.mem_of_getElem? hx
    have hx1 := n7 x hxm
    have hx2 := hc.rk x hxm
    have b1 := lrs i
    have b2 := nums_len [x.key.size] (by simp; omega)
    have b3 := nums_len [x.tm.toNat, x.ac.toNat] (by simp; omega)
    have b4 := data_len x.key
    have hm := flat_more (f := rdB) hx
    simp only [List.length_cons, List.length_nil] at b2 b3
    simp [hx, -encB]
    repeat' (first | intro _ | with_reducible refine And.intro ?_ ?_ | exact chkI (by kernel_rfl) | exact backI (by kernel_rfl) | (refine callH (by first | ((refine ⟨?_, ?_, ?_, ?_⟩ <;> repeat' (first | exact rfl | exact Or.inl rfl | exact Or.inr rfl | exact trivial | with_reducible constructor | refine ⟨?_, ?_⟩ | (simp; done))); done) | fail) (c_numbers7 ..) ?_ <;> try simp [hx, -encB]) | (refine callHD (by first | ((refine ⟨?_, ?_, ?_, ?_⟩ <;> repeat' (first | exact rfl | exact Or.inl rfl | exact Or.inr rfl | exact trivial | with_reducible constructor | refine ⟨?_, ?_⟩ | (simp; done))); done) | fail) (c_numbers7 ..) rfl ?_ <;> try simp [hx, -encB]) | (refine callH (by first | ((refine ⟨?_, ?_, ?_, ?_⟩ <;> repeat' (first | exact rfl | exact Or.inl rfl | exact Or.inr rfl | exact trivial | with_reducible constructor | refine ⟨?_, ?_⟩ | (simp; done))); done) | fail) (c_numbers2 ..) ?_ <;> try simp [hx, -encB]) | (refine callHD (by first | ((refine ⟨?_, ?_, ?_, ?_⟩ <;> repeat' (first | exact rfl | exact Or.inl rfl | exact Or.inr rfl | exact trivial | with_reducible constructor | refine ⟨?_, ?_⟩ | (simp; done))); done) | fail) (c_numbers2 ..) rfl ?_ <;> try simp [hx, -encB]) | (refine callH (by first | ((refine ⟨?_, ?_, ?_, ?_⟩ <;> repeat' (first | exact rfl | exact Or.inl rfl | exact Or.inr rfl | exact trivial | with_reducible constructor | refine ⟨?_, ?_⟩ | (simp; done))); done) | fail) (c_numbers1 ..) ?_ <;> try simp [hx, -encB]) | (refine callHD (by first | ((refine ⟨?_, ?_, ?_, ?_⟩ <;> repeat' (first | exact rfl | exact Or.inl rfl | exact Or.inr rfl | exact trivial | with_reducible constructor | refine ⟨?_, ?_⟩ | (simp; done))); done) | fail) (c_numbers1 ..) rfl ?_ <;> try simp [hx, -encB]) | (refine callH (by first | ((refine ⟨?_, ?_, ?_, ?_⟩ <;> repeat' (first | exact rfl | exact Or.inl rfl | exact Or.inr rfl | exact trivial | with_reducible constructor | refine ⟨?_, ?_⟩ | (simp; done))); done) | fail) (c_numbers ..) ?_ <;> try simp [hx, -encB]) | (refine callHD (by first | ((refine ⟨?_, ?_, ?_, ?_⟩ <;> repeat' (first | exact rfl | exact Or.inl rfl | exact Or.inr rfl | exact trivial | with_reducible constructor | refine ⟨?_, ?_⟩ | (simp; done))); done) | fail) (c_numbers ..) rfl ?_ <;> try simp [hx, -encB]) | (refine callH (by first | ((refine ⟨?_, ?_, ?_, ?_⟩ <;> repeat' (first | exact rfl | exact Or.inl rfl | exact Or.inr rfl | exact trivial | with_reducible constructor | refine ⟨?_, ?_⟩ | (simp; done))); done) | fail) (c_text ..) ?_ <;> try simp [hx, -encB]) | (refine callHD (by first | ((refine ⟨?_, ?_, ?_, ?_⟩ <;> repeat' (first | exact rfl | exact Or.inl rfl | exact Or.inr rfl | exact trivial | with_reducible constructor | refine ⟨?_, ?_⟩ | (simp; done))); done) | fail) (c_text ..) rfl ?_ <;> try simp [hx, -encB]) | (refine callH (by first | ((refine ⟨?_, ?_, ?_, ?_⟩ <;> repeat' (first | exact rfl | exact Or.inl rfl | exact Or.inr rfl | exact trivial | with_reducible constructor | refine ⟨?_, ?_⟩ | (simp; done))); done) | fail) (c_truth ..) ?_ <;> try simp [hx, -encB]) | (refine callHD (by first | ((refine ⟨?_, ?_, ?_, ?_⟩ <;> repeat' (first | exact rfl | exact Or.inl rfl | exact Or.inr rfl | exact trivial | with_reducible constructor | refine ⟨?_, ?_⟩ | (simp; done))); done) | fail) (c_truth ..) rfl ?_ <;> try simp [hx, -encB]) | fail)
    · refine Exists.intro (i + 1) (And.intro (by omega) (And.intro (by omega) (St.to_chk [(27, 40)] ?_)))
      rw [hm]
      simp [hw, rdB, -encB]
    · omega
  · have hle : c.rs.length ≤ i := by omega
    rw [List.take_of_length_le hle]
    have ltot := lrs c.rs.length
    rw [List.take_length] at ltot
    simp [hi, -encB]
    repeat' (first | intro _ | with_reducible refine And.intro ?_ ?_ | exact chkI (by kernel_rfl) | exact backI (by kernel_rfl) | (refine callH (by first | ((refine ⟨?_, ?_, ?_, ?_⟩ <;> repeat' (first | exact rfl | exact Or.inl rfl | exact Or.inr rfl | exact trivial | with_reducible constructor | refine ⟨?_, ?_⟩ | (simp; done))); done) | fail) (c_numbers7 ..) ?_ <;> try simp [-encB]) | (refine callHD (by first | ((refine ⟨?_, ?_, ?_, ?_⟩ <;> repeat' (first | exact rfl | exact Or.inl rfl | exact Or.inr rfl | exact trivial | with_reducible constructor | refine ⟨?_, ?_⟩ | (simp; done))); done) | fail) (c_numbers7 ..) rfl ?_ <;> try simp [-encB]) | (refine callH (by first | ((refine ⟨?_, ?_, ?_, ?_⟩ <;> repeat' (first | exact rfl | exact Or.inl rfl | exact Or.inr rfl | exact trivial | with_reducible constructor | refine ⟨?_, ?_⟩ | (simp; done))); done) | fail) (c_numbers2 ..) ?_ <;> try simp [-encB]) | (refine callHD (by first | ((refine ⟨?_, ?_, ?_, ?_⟩ <;> repeat' (first | exact rfl | exact Or.inl rfl | exact Or.inr rfl | exact trivial | with_reducible constructor | refine ⟨?_, ?_⟩ | (simp; done))); done) | fail) (c_numbers2 ..) rfl ?_ <;> try simp [-encB]) | (refine callH (by first | ((refine ⟨?_, ?_, ?_, ?_⟩ <;> repeat' (first | exact rfl | exact Or.inl rfl | exact Or.inr rfl | exact trivial | with_reducible constructor | refine ⟨?_, ?_⟩ | (simp; done))); done) | fail) (c_numbers1 ..) ?_ <;> try simp [-encB]) | (refine callHD (by first | ((refine ⟨?_, ?_, ?_, ?_⟩ <;> repeat' (first | exact rfl | exact Or.inl rfl | exact Or.inr rfl | exact trivial | with_reducible constructor | refine ⟨?_, ?_⟩ | (simp; done))); done) | fail) (c_numbers1 ..) rfl ?_ <;> try simp [-encB]) | (refine callH (by first | ((refine ⟨?_, ?_, ?_, ?_⟩ <;> repeat' (first | exact rfl | exact Or.inl rfl | exact Or.inr rfl | exact trivial | with_reducible constructor | refine ⟨?_, ?_⟩ | (simp; done))); done) | fail) (c_numbers ..) ?_ <;> try simp [-encB]) | (refine callHD (by first | ((refine ⟨?_, ?_, ?_, ?_⟩ <;> repeat' (first | exact rfl | exact Or.inl rfl | exact Or.inr rfl | exact trivial | with_reducible constructor | refine ⟨?_, ?_⟩ | (simp; done))); done) | fail) (c_numbers ..) rfl ?_ <;> try simp [-encB]) | (refine callH (by first | ((refine ⟨?_, ?_, ?_, ?_⟩ <;> repeat' (first | exact rfl | exact Or.inl rfl | exact Or.inr rfl | exact trivial | with_reducible constructor | refine ⟨?_, ?_⟩ | (simp; done))); done) | fail) (c_text ..) ?_ <;> try simp [-encB]) | (refine callHD (by first | ((refine ⟨?_, ?_, ?_, ?_⟩ <;> repeat' (first | exact rfl | exact Or.inl rfl | exact Or.inr rfl | exact trivial | with_reducible constructor | refine ⟨?_, ?_⟩ | (simp; done))); done) | fail) (c_text ..) rfl ?_ <;> try simp [-encB]) | (refine callH (by first | ((refine ⟨?_, ?_, ?_, ?_⟩ <;> repeat' (first | exact rfl | exact Or.inl rfl | exact Or.inr rfl | exact trivial | with_reducible constructor | refine ⟨?_, ?_⟩ | (simp; done))); done) | fail) (c_truth ..) ?_ <;> try simp [-encB]) | (refine callHD (by first | ((refine ⟨?_, ?_, ?_, ?_⟩ <;> repeat' (first | exact rfl | exact Or.inl rfl | exact Or.inr rfl | exact trivial | with_reducible constructor | refine ⟨?_, ?_⟩ | (simp; done))); done) | fail) (c_truth ..) rfl ?_ <;> try simp [-encB]) | fail)
    refine aw_loopKM (α := {i : Nat // i ≤ c.ws.length}) [3, 4, 60, 61, 74, 75, 76, 77] (fun i => [(62, i64 i.1), (0, .rf 30)]) (fun i => [(30, .row false 5 1 (encB (p ++ 1 :: (nums [c.kind.toNat, c.cl.toNat, c.nm.toNat, c.tm.toNat, c.ac.toNat, c.sh.toNat, c.rs.length] ++ (c.rs.flatMap rdB ++ (nums [c.ws.length] ++ (c.ws.take i.1).flatMap wrB)))))), (0, .gone), (1, .box false 33 c.cs)]) 31 (fun i => c.ws.length - i.1) ⟨0, by simp⟩ (St.to_chk [(30, 29)] (by simp [-encB])) ?_
    rintro ⟨q, k1⟩
    dsimp only
    by_cases hq : q < c.ws.length
    · obtain ⟨x, hx⟩ := getL_some hq
      have hw := wrI hq (by omega)
      have hxm := List.mem_of_getElem? hx
      have hx2 := hc.wk x hxm
      have b1 := lws q
      have b2 := nums_len [x.key.size] (by simp; omega)
      have b3 := nums_len [x.val.size] (by simp; omega)
      have b4 := data_len x.key
      have b5 := data_len x.val
      have hm := flat_more (f := wrB) hx
      simp only [List.length_cons, List.length_nil] at b2 b3
      simp [hx, -encB]
      repeat' (first | intro _ | with_reducible refine And.intro ?_ ?_ | exact chkI (by kernel_rfl) | exact backI (by kernel_rfl) | (refine callH (by first | ((refine ⟨?_, ?_, ?_, ?_⟩ <;> repeat' (first | exact rfl | exact Or.inl rfl | exact Or.inr rfl | exact trivial | with_reducible constructor | refine ⟨?_, ?_⟩ | (simp; done))); done) | fail) (c_numbers7 ..) ?_ <;> try simp [hx, -encB]) | (refine callHD (by first | ((refine ⟨?_, ?_, ?_, ?_⟩ <;> repeat' (first | exact rfl | exact Or.inl rfl | exact Or.inr rfl | exact trivial | with_reducible constructor | refine ⟨?_, ?_⟩ | (simp; done))); done) | fail) (c_numbers7 ..) rfl ?_ <;> try simp [hx, -encB]) | (refine callH (by first | ((refine ⟨?_, ?_, ?_, ?_⟩ <;> repeat' (first | exact rfl | exact Or.inl rfl | exact Or.inr rfl | exact trivial | with_reducible constructor | refine ⟨?_, ?_⟩ | (simp; done))); done) | fail) (c_numbers2 ..) ?_ <;> try simp [hx, -encB]) | (refine callHD (by first | ((refine ⟨?_, ?_, ?_, ?_⟩ <;> repeat' (first | exact rfl | exact Or.inl rfl | exact Or.inr rfl | exact trivial | with_reducible constructor | refine ⟨?_, ?_⟩ | (simp; done))); done) | fail) (c_numbers2 ..) rfl ?_ <;> try simp [hx, -encB]) | (refine callH (by first | ((refine ⟨?_, ?_, ?_, ?_⟩ <;> repeat' (first | exact rfl | exact Or.inl rfl | exact Or.inr rfl | exact trivial | with_reducible constructor | refine ⟨?_, ?_⟩ | (simp; done))); done) | fail) (c_numbers1 ..) ?_ <;> try simp [hx, -encB]) | (refine callHD (by first | ((refine ⟨?_, ?_, ?_, ?_⟩ <;> repeat' (first | exact rfl | exact Or.inl rfl | exact Or.inr rfl | exact trivial | with_reducible constructor | refine ⟨?_, ?_⟩ | (simp; done))); done) | fail) (c_numbers1 ..) rfl ?_ <;> try simp [hx, -encB]) | (refine callH (by first | ((refine ⟨?_, ?_, ?_, ?_⟩ <;> repeat' (first | exact rfl | exact Or.inl rfl | exact Or.inr rfl | exact trivial | with_reducible constructor | refine ⟨?_, ?_⟩ | (simp; done))); done) | fail) (c_numbers ..) ?_ <;> try simp [hx, -encB]) | (refine callHD (by first | ((refine ⟨?_, ?_, ?_, ?_⟩ <;> repeat' (first | exact rfl | exact Or.inl rfl | exact Or.inr rfl | exact trivial | with_reducible constructor | refine ⟨?_, ?_⟩ | (simp; done))); done) | fail) (c_numbers ..) rfl ?_ <;> try simp [hx, -encB]) | (refine callH (by first | ((refine ⟨?_, ?_, ?_, ?_⟩ <;> repeat' (first | exact rfl | exact Or.inl rfl | exact Or.inr rfl | exact trivial | with_reducible constructor | refine ⟨?_, ?_⟩ | (simp; done))); done) | fail) (c_text ..) ?_ <;> try simp [hx, -encB]) | (refine callHD (by first | ((refine ⟨?_, ?_, ?_, ?_⟩ <;> repeat' (first | exact rfl | exact Or.inl rfl | exact Or.inr rfl | exact trivial | with_reducible constructor | refine ⟨?_, ?_⟩ | (simp; done))); done) | fail) (c_text ..) rfl ?_ <;> try simp [hx, -encB]) | (refine callH (by first | ((refine ⟨?_, ?_, ?_, ?_⟩ <;> repeat' (first | exact rfl | exact Or.inl rfl | exact Or.inr rfl | exact trivial | with_reducible constructor | refine ⟨?_, ?_⟩ | (simp; done))); done) | fail) (c_truth ..) ?_ <;> try simp [hx, -encB]) | (refine callHD (by first | ((refine ⟨?_, ?_, ?_, ?_⟩ <;> repeat' (first | exact rfl | exact Or.inl rfl | exact Or.inr rfl | exact trivial | with_reducible constructor | refine ⟨?_, ?_⟩ | (simp; done))); done) | fail) (c_truth ..) rfl ?_ <;> try simp [hx, -encB]) | fail)
      · refine Exists.intro (q + 1) (And.intro (by omega) (And.intro (by omega) (St.to_chk [(30, 38)] ?_)))
        rw [hm]
        simp [hw, wrB, -encB]
      · omega
    · have hle : c.ws.length ≤ q := by omega
      rw [List.take_of_length_le hle]
      have ltot2 := lws c.ws.length
      rw [List.take_length] at ltot2
      simp [hq, -encB]
      repeat' (first | intro _ | with_reducible refine And.intro ?_ ?_ | exact chkI (by kernel_rfl) | exact backI (by kernel_rfl) | (refine callH (by first | ((refine ⟨?_, ?_, ?_, ?_⟩ <;> repeat' (first | exact rfl | exact Or.inl rfl | exact Or.inr rfl | exact trivial | with_reducible constructor | refine ⟨?_, ?_⟩ | (simp; done))); done) | fail) (c_numbers7 ..) ?_ <;> try simp [-encB]) | (refine callHD (by first | ((refine ⟨?_, ?_, ?_, ?_⟩ <;> repeat' (first | exact rfl | exact Or.inl rfl | exact Or.inr rfl | exact trivial | with_reducible constructor | refine ⟨?_, ?_⟩ | (simp; done))); done) | fail) (c_numbers7 ..) rfl ?_ <;> try simp [-encB]) | (refine callH (by first | ((refine ⟨?_, ?_, ?_, ?_⟩ <;> repeat' (first | exact rfl | exact Or.inl rfl | exact Or.inr rfl | exact trivial | with_reducible constructor | refine ⟨?_, ?_⟩ | (simp; done))); done) | fail) (c_numbers2 ..) ?_ <;> try simp [-encB]) | (refine callHD (by first | ((refine ⟨?_, ?_, ?_, ?_⟩ <;> repeat' (first | exact rfl | exact Or.inl rfl | exact Or.inr rfl | exact trivial | with_reducible constructor | refine ⟨?_, ?_⟩ | (simp; done))); done) | fail) (c_numbers2 ..) rfl ?_ <;> try simp [-encB]) | (refine callH (by first | ((refine ⟨?_, ?_, ?_, ?_⟩ <;> repeat' (first | exact rfl | exact Or.inl rfl | exact Or.inr rfl | exact trivial | with_reducible constructor | refine ⟨?_, ?_⟩ | (simp; done))); done) | fail) (c_numbers1 ..) ?_ <;> try simp [-encB]) | (refine callHD (by first | ((refine ⟨?_, ?_, ?_, ?_⟩ <;> repeat' (first | exact rfl | exact Or.inl rfl | exact Or.inr rfl | exact trivial | with_reducible constructor | refine ⟨?_, ?_⟩ | (simp; done))); done) | fail) (c_numbers1 ..) rfl ?_ <;> try simp [-encB]) | (refine callH (by first | ((refine ⟨?_, ?_, ?_, ?_⟩ <;> repeat' (first | exact rfl | exact Or.inl rfl | exact Or.inr rfl | exact trivial | with_reducible constructor | refine ⟨?_, ?_⟩ | (simp; done))); done) | fail) (c_numbers ..) ?_ <;> try simp [-encB]) | (refine callHD (by first | ((refine ⟨?_, ?_, ?_, ?_⟩ <;> repeat' (first | exact rfl | exact Or.inl rfl | exact Or.inr rfl | exact trivial | with_reducible constructor | refine ⟨?_, ?_⟩ | (simp; done))); done) | fail) (c_numbers ..) rfl ?_ <;> try simp [-encB]) | (refine callH (by first | ((refine ⟨?_, ?_, ?_, ?_⟩ <;> repeat' (first | exact rfl | exact Or.inl rfl | exact Or.inr rfl | exact trivial | with_reducible constructor | refine ⟨?_, ?_⟩ | (simp; done))); done) | fail) (c_text ..) ?_ <;> try simp [-encB]) | (refine callHD (by first | ((refine ⟨?_, ?_, ?_, ?_⟩ <;> repeat' (first | exact rfl | exact Or.inl rfl | exact Or.inr rfl | exact trivial | with_reducible constructor | refine ⟨?_, ?_⟩ | (simp; done))); done) | fail) (c_text ..) rfl ?_ <;> try simp [-encB]) | (refine callH (by first | ((refine ⟨?_, ?_, ?_, ?_⟩ <;> repeat' (first | exact rfl | exact Or.inl rfl | exact Or.inr rfl | exact trivial | with_reducible constructor | refine ⟨?_, ?_⟩ | (simp; done))); done) | fail) (c_truth ..) ?_ <;> try simp [-encB]) | (refine callHD (by first | ((refine ⟨?_, ?_, ?_, ?_⟩ <;> repeat' (first | exact rfl | exact Or.inl rfl | exact Or.inr rfl | exact trivial | with_reducible constructor | refine ⟨?_, ?_⟩ | (simp; done))); done) | fail) (c_truth ..) rfl ?_ <;> try simp [-encB]) | fail)
      all_goals first | omega | (refine St.to_chk [(1, 31)] ?_; simp [cmdB, -encB]; done)
end Go.Proofs.Ytalkadbpdaoifaa.AX
