/- Trips one behind the other, each of which read what was there: the law. -/
import Derived.Test.YtnldlkkcdgdkgaaCh15
import Derived.Test.YtnldlkkcdgdkgaaCh22
namespace Go.Proofs.Ytnldlkkcdgdkgaa.AX
open Go Go.RowKit
set_option linter.unusedSimpArgs false
set_option linter.unusedVariables false
set_option maxRecDepth 100000
set_option maxHeartbeats 4000000
structure RunOk (i : Nat) (R : List Trp) : Prop where
  len : R.length = i
  run : Run R
  rd : ReadT R
  right : R.all rightT = true
  small : ∀ t ∈ R, t.Small
  low : ∀ t ∈ R, ∀ s ∈ t.rs, s.tm < 1000000 ∧ 0 ≤ s.tm
theorem there_low {R : List Trp} (h : Run R) (hl : R.length ≤ 10) (key : ByteArray) (tm ac : Int) : (thereS R key tm ac).1.1 < 1000000 ∧ 0 ≤ (thereS R key tm ac).1.1 := by
  have ht : ∀ t ∈ sortedS R, t.tm < 1000000 ∧ 0 ≤ t.tm := fun t ht => by
    obtain ⟨i, hi⟩ := List.getElem?_of_mem (sortedS_mem ht).1
    have := h i t hi
    have := (List.getElem?_eq_some_iff.1 hi).1
    omega
  rw [thereS]
  have go : ∀ (L : List Trp) (a : Acc), (∀ t ∈ L, t.tm < 1000000 ∧ 0 ≤ t.tm) → (a.1.1 < 1000000 ∧ 0 ≤ a.1.1) → (L.foldl (thereF key tm ac) a).1.1 < 1000000 ∧ 0 ≤ (L.foldl (thereF key tm ac) a).1.1 := by
    intro L
    induction L with
    | nil => intro a _ h; exact h
    | cons t r ih =>
      intro a hL ha
      rw [List.foldl_cons]
      refine ih _ (fun x hx => hL x (by simp [hx])) ?_
      rw [thereF]
      split
      · rw [takeS_last]
        split
        · exact ha
        · exact hL t (by simp)
      · exact ha
  exact go _ _ ht (by simp)
theorem RunOk.next {i : Nat} {R : List Trp} {t : Trp} (h : RunOk i R) (hi : i < 10) (ht : t.Small) (hr : rightT (mkX R i t) = true) : RunOk (i + 1) (R ++ [mkX R i t]) := by
  have hx : (mkX R i t).cl = 0 ∧ (mkX R i t).nm = (R.length : Int) + 1 ∧ (mkX R i t).tm = 2 * (R.length : Int) + 1 ∧ (mkX R i t).ac = 0 ∧ (mkX R i t).oc = 1 := by rw [h.len]; exact ⟨rfl, rfl, rfl, rfl, rfl⟩
  refine ⟨by simp [h.len], h.run.snoc hx, h.rd.snoc ?_, ?_, ?_, ?_⟩
  · intro s hs
    obtain ⟨s0, _, rfl⟩ := List.mem_map.1 hs
    rfl
  · rw [List.all_append, h.right]; simp [hr]
  · intro x hx
    rcases List.mem_append.1 hx with hx | hx
    · exact h.small x hx
    · simp only [List.mem_singleton] at hx
      subst hx
      refine ⟨by simpa [mkX] using ht.rl, ht.wl, fun r hr => ?_, ht.wk⟩
      obtain ⟨s0, hs0, rfl⟩ := List.mem_map.1 hr
      exact ht.rk s0 hs0
  · intro x hx s hs
    rcases List.mem_append.1 hx with hx | hx
    · exact h.low x hx s hs
    · simp only [List.mem_singleton] at hx
      subst hx
      obtain ⟨s0, _, rfl⟩ := List.mem_map.1 hs
      exact there_low h.run (by rw [h.len]; omega) _ _ _
def rM (R : List Trp) (i : Nat) (t : Trp) : Nat → List (Nat × AO)
  | 0 => [(0, .row false 38 7 (R.map Trp.cs)), (2, .box false 38 [i64 0, i64 ((i : Int) + 1), i64 (2 * (i : Int) + 1), i64 0, .nl, .sl (t.ws.map Wr.cs), i64 1])]
  | k + 1 => [(0, .row false 38 7 (R.map Trp.cs)), (2, .box false 38 [i64 0, i64 ((i : Int) + 1), i64 (2 * (i : Int) + 1), i64 0, .rf 3, .sl (t.ws.map Wr.cs), i64 1]), (3, .row false 52 4 (((t.rs.map (mkS R (2 * (i : Int) + 1))).map Sn.cs).take (k + 1)))]
theorem c_checkRuns (l : List Trp) (at' : Int) (h0 : 0 ≤ at' ∧ at' ≤ 255) : Pure Try.prog 5 [.sl (l.map Trp.cs), .int .u8 at'] (.bool true) := by
  rcases hf : fewT l with _ | _
  · refine pureQ_of_aw dOk Try.func5 rfl rfl rfl rfl rfl ?_
    simp [Try.f5]
    repeat' (first | intro _ | with_reducible refine And.intro ?_ ?_ | exact chkI (by kernel_rfl) | exact backI (by kernel_rfl) | (refine callA (by first | rfl | (simp; done) | (simp; rfl)) (c_there ..) ?_ <;> try simp [hf]) | (refine callB (by first | rfl | (simp; done) | (simp; rfl)) (c_there ..) ?_ <;> try simp [hf]) | (refine callA (by first | rfl | (simp; done) | (simp; rfl)) (c_right ..) ?_ <;> try simp [hf]) | (refine callB (by first | rfl | (simp; done) | (simp; rfl)) (c_right ..) ?_ <;> try simp [hf]) | (refine callA (by first | rfl | (simp; done) | (simp; rfl)) (c_CheckT ..) ?_ <;> try simp [hf]) | (refine callB (by first | rfl | (simp; done) | (simp; rfl)) (c_CheckT ..) ?_ <;> try simp [hf]) | (refine callA (by first | rfl | (simp; done) | (simp; rfl)) (c_CB ..) ?_ <;> try simp [hf]) | (refine callB (by first | rfl | (simp; done) | (simp; rfl)) (c_CB ..) ?_ <;> try simp [hf]) | (refine callA (by first | rfl | (simp; done) | (simp; rfl)) (c_CA ..) ?_ <;> try simp [hf]) | (refine callB (by first | rfl | (simp; done) | (simp; rfl)) (c_CA ..) ?_ <;> try simp [hf]) | (refine callA (by first | rfl | (simp; done) | (simp; rfl)) (c_Check ..) ?_ <;> try simp [hf]) | (refine callB (by first | rfl | (simp; done) | (simp; rfl)) (c_Check ..) ?_ <;> try simp [hf]) | (refine callA (by first | rfl | (simp; done) | (simp; rfl)) (c_few1 ..) ?_ <;> try simp [hf]) | (refine callB (by first | rfl | (simp; done) | (simp; rfl)) (c_few1 ..) ?_ <;> try simp [hf]) | (refine callA (by first | rfl | (simp; done) | (simp; rfl)) (c_few ..) ?_ <;> try simp [hf]) | (refine callB (by first | rfl | (simp; done) | (simp; rfl)) (c_few ..) ?_ <;> try simp [hf]) | (refine callA (by first | rfl | (simp; done) | (simp; rfl)) (c_awake ..) ?_ <;> try simp [hf]) | (refine callB (by first | rfl | (simp; done) | (simp; rfl)) (c_awake ..) ?_ <;> try simp [hf]) | fail)
    all_goals first | omega
  · obtain ⟨hl0, hs⟩ := fewT_small hf
    refine pureQ_of_aw dOk Try.func5 rfl rfl rfl rfl rfl ?_
    simp [Try.f5]
    repeat' (first | intro _ | with_reducible refine And.intro ?_ ?_ | exact chkI (by kernel_rfl) | exact backI (by kernel_rfl) | (refine callA (by first | rfl | (simp; done) | (simp; rfl)) (c_there ..) ?_ <;> try simp [hf]) | (refine callB (by first | rfl | (simp; done) | (simp; rfl)) (c_there ..) ?_ <;> try simp [hf]) | (refine callA (by first | rfl | (simp; done) | (simp; rfl)) (c_right ..) ?_ <;> try simp [hf]) | (refine callB (by first | rfl | (simp; done) | (simp; rfl)) (c_right ..) ?_ <;> try simp [hf]) | (refine callA (by first | rfl | (simp; done) | (simp; rfl)) (c_CheckT ..) ?_ <;> try simp [hf]) | (refine callB (by first | rfl | (simp; done) | (simp; rfl)) (c_CheckT ..) ?_ <;> try simp [hf]) | (refine callA (by first | rfl | (simp; done) | (simp; rfl)) (c_CB ..) ?_ <;> try simp [hf]) | (refine callB (by first | rfl | (simp; done) | (simp; rfl)) (c_CB ..) ?_ <;> try simp [hf]) | (refine callA (by first | rfl | (simp; done) | (simp; rfl)) (c_CA ..) ?_ <;> try simp [hf]) | (refine callB (by first | rfl | (simp; done) | (simp; rfl)) (c_CA ..) ?_ <;> try simp [hf]) | (refine callA (by first | rfl | (simp; done) | (simp; rfl)) (c_Check ..) ?_ <;> try simp [hf]) | (refine callB (by first | rfl | (simp; done) | (simp; rfl)) (c_Check ..) ?_ <;> try simp [hf]) | (refine callA (by first | rfl | (simp; done) | (simp; rfl)) (c_few1 ..) ?_ <;> try simp [hf]) | (refine callB (by first | rfl | (simp; done) | (simp; rfl)) (c_few1 ..) ?_ <;> try simp [hf]) | (refine callA (by first | rfl | (simp; done) | (simp; rfl)) (c_few ..) ?_ <;> try simp [hf]) | (refine callB (by first | rfl | (simp; done) | (simp; rfl)) (c_few ..) ?_ <;> try simp [hf]) | (refine callA (by first | rfl | (simp; done) | (simp; rfl)) (c_awake ..) ?_ <;> try simp [hf]) | (refine callB (by first | rfl | (simp; done) | (simp; rfl)) (c_awake ..) ?_ <;> try simp [hf]) | fail)
    refine aw_loopKM (α := {x : Nat × List Trp // x.1 ≤ l.length ∧ RunOk x.1 x.2}) [1, 13, 14, 15, 16, 17, 18, 19, 24, 25, 77, 78, 79, 80, 81, 82, 83, 84, 85, 86, 87, 88, 89, 90, 91, 92, 93, 94, 95, 96, 97, 98, 99, 100, 101, 102, 103, 104, 105, 106, 107, 108, 109, 110, 111, 112, 113, 114, 115, 116, 117, 118, 119, 120, 121, 122, 123, 124, 125, 126, 127, 128, 129, 130, 131, 132, 133, 134, 135, 136, 137, 138, 139, 140, 141, 142, 143] (fun x => [(26, i64 x.1.1), (5, .rf 0)]) (fun x => [(0, .row false 38 7 (x.1.2.map Trp.cs))]) 1 (fun x => l.length - x.1.1) ⟨(0, []), by simp, ⟨rfl, fun i t h => by simp at h, fun i t h => by simp at h, rfl, fun t h => by simp at h, fun t h => by simp at h⟩⟩ ((St.to_own 5 38 7 rfl (by simp)).trans (St.to_chk [] (by simp))) ?_
    rintro ⟨⟨i, R⟩, j1, j2⟩
    dsimp only at j1 j2 ⊢
    have hRl := j2.len
    have hRs := j2.small
    have hRl2 : R.length ≤ 19 := by omega
    by_cases hi : i < l.length
    · obtain ⟨t, ht⟩ := getL_some hi
      have hw := wrI hi (by omega)
      have hsm := hs t (List.mem_of_getElem? ht)
      have r1 := hsm.rl
      have r2 := hsm.wl
      have w1 : IntKind.i64.wrap (2 * (i : Int)) = 2 * (i : Int) := wr64 (by omega) (by omega)
      have w2 : IntKind.i64.wrap (2 * (i : Int) + 1) = 2 * (i : Int) + 1 := wr64 (by omega) (by omega)
      simp [ht, hw, w1, w2]
      refine ⟨fun _ => ?_, fun h => by omega⟩
      have hXl : ((t.rs.map (mkS R (2 * (i : Int) + 1))).map Sn.cs).length = t.rs.length := by simp
      have hXg : ∀ k s, t.rs[k]? = some s → ((t.rs.map (mkS R (2 * (i : Int) + 1))).map Sn.cs)[k]? = some (mkS R (2 * (i : Int) + 1) s).cs := fun k s h => by rw [List.getElem?_map, List.getElem?_map, h]; rfl
      have hR : Pure Try.prog 14 [.agg [i64 0, i64 ((i : Int) + 1), i64 (2 * (i : Int) + 1), i64 0, .sl ((t.rs.map (mkS R (2 * (i : Int) + 1))).map Sn.cs), .sl (t.ws.map Wr.cs), i64 1]] (.bool (rightT (mkX R i t))) := c_right (mkX R i t) ⟨by simpa [mkX] using r1, r2, fun r hr => by
        obtain ⟨s0, hs0, rfl⟩ := List.mem_map.1 hr
        exact hsm.rk s0 hs0, hsm.wk⟩
      have hxc : (mkX R i t).cs = [i64 0, i64 ((i : Int) + 1), i64 (2 * (i : Int) + 1), i64 0, .sl ((t.rs.map (mkS R (2 * (i : Int) + 1))).map Sn.cs), .sl (t.ws.map Wr.cs), i64 1] := rfl
      have hRx : ∀ X, (t.rs.map (mkS R (2 * (i : Int) + 1))).map Sn.cs = X → (R ++ [mkX R i t]).map Trp.cs = R.map Trp.cs ++ [[i64 0, i64 ((i : Int) + 1), i64 (2 * (i : Int) + 1), i64 0, .sl X, .sl (t.ws.map Wr.cs), i64 1]] := fun X hX => by rw [List.map_append, List.map_cons, List.map_nil, hxc, hX]
      have hnext := j2.next (t := t) (by omega) hsm
      refine aw_loopKM (α := {k : Nat // k ≤ t.rs.length}) [1, 4, 5, 6, 7, 8, 13, 14, 15, 16, 17, 18, 19, 24, 25, 26, 27, 28, 29, 30, 31, 32, 33, 34, 35, 36, 37, 38, 39, 40, 41, 42, 43, 68, 69, 70, 71, 72, 73, 74, 75, 76, 77, 78, 79, 80, 81, 82, 83, 84, 85, 86, 87, 88, 89, 90, 91, 92, 93, 94, 95, 96, 97, 98, 99, 100, 101, 102, 103, 104, 105, 106, 107, 108, 109, 110, 111, 112, 113, 114, 115, 116, 117, 118, 119, 120, 121, 122, 123, 124, 125, 126, 127, 128, 129, 130, 131, 132, 133, 134, 135, 136, 137, 138, 139, 140, 141, 142, 143] (fun k => [(44, i64 k.1)]) (fun k => rM R i t k.1) 4 (fun k => t.rs.length - k.1) ⟨0, by simp⟩ (St.to_chk [] (by simp [rM])) ?_
      rintro ⟨k, k1⟩
      dsimp only
      generalize hX : (t.rs.map (mkS R (2 * (i : Int) + 1))).map Sn.cs = X at hXl hXg hR hxc
      have hRx2 := hRx X hX
      by_cases hk : k < t.rs.length
      · obtain ⟨s, hs0⟩ := getL_some hk
        have hwk := wrI hk (by omega)
        have hkm : X.take (k + 1) = X.take k ++ [(mkS R (2 * (i : Int) + 1) s).cs] := by rw [List.take_add_one, hXg k s hs0]; rfl
        rcases k with _ | k
        · have hkm1 : X.take 1 = [(mkS R (2 * (i : Int) + 1) s).cs] := by simpa using hkm
          simp only [rM, hX]
          simp [hs0]
          refine And.intro (fun _ => ?_) (by first | omega | (intro h; rw [h] at hk; simp at hk) | (intro h; simp [h] at hk) | (simp_all; done))
          repeat' (first | intro _ | with_reducible refine And.intro ?_ ?_ | exact chkI (by kernel_rfl) | exact backI (by kernel_rfl) | (refine callA (by first | rfl | (simp; done) | (simp; rfl)) (c_there ..) ?_ <;> try simp [hs0]) | (refine callB (by first | rfl | (simp; done) | (simp; rfl)) (c_there ..) ?_ <;> try simp [hs0]) | (refine callA (by first | rfl | (simp; done) | (simp; rfl)) (c_right ..) ?_ <;> try simp [hs0]) | (refine callB (by first | rfl | (simp; done) | (simp; rfl)) (c_right ..) ?_ <;> try simp [hs0]) | (refine callA (by first | rfl | (simp; done) | (simp; rfl)) (c_CheckT ..) ?_ <;> try simp [hs0]) | (refine callB (by first | rfl | (simp; done) | (simp; rfl)) (c_CheckT ..) ?_ <;> try simp [hs0]) | (refine callA (by first | rfl | (simp; done) | (simp; rfl)) (c_CB ..) ?_ <;> try simp [hs0]) | (refine callB (by first | rfl | (simp; done) | (simp; rfl)) (c_CB ..) ?_ <;> try simp [hs0]) | (refine callA (by first | rfl | (simp; done) | (simp; rfl)) (c_CA ..) ?_ <;> try simp [hs0]) | (refine callB (by first | rfl | (simp; done) | (simp; rfl)) (c_CA ..) ?_ <;> try simp [hs0]) | (refine callA (by first | rfl | (simp; done) | (simp; rfl)) (c_Check ..) ?_ <;> try simp [hs0]) | (refine callB (by first | rfl | (simp; done) | (simp; rfl)) (c_Check ..) ?_ <;> try simp [hs0]) | (refine callA (by first | rfl | (simp; done) | (simp; rfl)) (c_few1 ..) ?_ <;> try simp [hs0]) | (refine callB (by first | rfl | (simp; done) | (simp; rfl)) (c_few1 ..) ?_ <;> try simp [hs0]) | (refine callA (by first | rfl | (simp; done) | (simp; rfl)) (c_few ..) ?_ <;> try simp [hs0]) | (refine callB (by first | rfl | (simp; done) | (simp; rfl)) (c_few ..) ?_ <;> try simp [hs0]) | (refine callA (by first | rfl | (simp; done) | (simp; rfl)) (c_awake ..) ?_ <;> try simp [hs0]) | (refine callB (by first | rfl | (simp; done) | (simp; rfl)) (c_awake ..) ?_ <;> try simp [hs0]) | fail)
          all_goals first | omega | (refine Exists.intro 1 (And.intro (by omega) (And.intro (by omega) (St.to_chk [(3, 7)] ?_))); simp only [rM, hX]; simp [hkm1, mkS]; done)
        · have hwk2 : IntKind.i64.wrap ((k : Int) + 1 + 1) = (k : Int) + 1 + 1 := wr64 (by omega) (by omega)
          have hwk3 : (k : Int) + 1 + 1 = (k : Int) + 2 := by omega
          have hwk4 : IntKind.i64.wrap ((k : Int) + 2) = (k : Int) + 2 := wr64 (by omega) (by omega)
          have hkm2 : X.take (k + 1 + 1) = X.take (k + 1) ++ [(mkS R (2 * (i : Int) + 1) s).cs] := hkm
          simp only [rM, hX]
          simp [hs0]
          repeat' (first | intro _ | with_reducible refine And.intro ?_ ?_ | exact chkI (by kernel_rfl) | exact backI (by kernel_rfl) | (refine callA (by first | rfl | (simp; done) | (simp; rfl)) (c_there ..) ?_ <;> try simp [hs0]) | (refine callB (by first | rfl | (simp; done) | (simp; rfl)) (c_there ..) ?_ <;> try simp [hs0]) | (refine callA (by first | rfl | (simp; done) | (simp; rfl)) (c_right ..) ?_ <;> try simp [hs0]) | (refine callB (by first | rfl | (simp; done) | (simp; rfl)) (c_right ..) ?_ <;> try simp [hs0]) | (refine callA (by first | rfl | (simp; done) | (simp; rfl)) (c_CheckT ..) ?_ <;> try simp [hs0]) | (refine callB (by first | rfl | (simp; done) | (simp; rfl)) (c_CheckT ..) ?_ <;> try simp [hs0]) | (refine callA (by first | rfl | (simp; done) | (simp; rfl)) (c_CB ..) ?_ <;> try simp [hs0]) | (refine callB (by first | rfl | (simp; done) | (simp; rfl)) (c_CB ..) ?_ <;> try simp [hs0]) | (refine callA (by first | rfl | (simp; done) | (simp; rfl)) (c_CA ..) ?_ <;> try simp [hs0]) | (refine callB (by first | rfl | (simp; done) | (simp; rfl)) (c_CA ..) ?_ <;> try simp [hs0]) | (refine callA (by first | rfl | (simp; done) | (simp; rfl)) (c_Check ..) ?_ <;> try simp [hs0]) | (refine callB (by first | rfl | (simp; done) | (simp; rfl)) (c_Check ..) ?_ <;> try simp [hs0]) | (refine callA (by first | rfl | (simp; done) | (simp; rfl)) (c_few1 ..) ?_ <;> try simp [hs0]) | (refine callB (by first | rfl | (simp; done) | (simp; rfl)) (c_few1 ..) ?_ <;> try simp [hs0]) | (refine callA (by first | rfl | (simp; done) | (simp; rfl)) (c_few ..) ?_ <;> try simp [hs0]) | (refine callB (by first | rfl | (simp; done) | (simp; rfl)) (c_few ..) ?_ <;> try simp [hs0]) | (refine callA (by first | rfl | (simp; done) | (simp; rfl)) (c_awake ..) ?_ <;> try simp [hs0]) | (refine callB (by first | rfl | (simp; done) | (simp; rfl)) (c_awake ..) ?_ <;> try simp [hs0]) | fail)
          all_goals first | omega | (exfalso; omega) | exact sn_len (by rw [← hX] at *; exact List.mem_of_mem_take (by assumption)) | (refine Exists.intro (k + 2) (And.intro (by omega) (And.intro (by omega) (St.to_chk [(3, 7)] ?_))); simp only [rM, hX]; simp [hkm2, mkS, hwk2, hwk3, hwk4]; done)
      · rcases k with _ | k
        · have hnil : t.rs = [] := List.eq_nil_of_length_eq_zero (by omega)
          have hXn : X = [] := by rw [← hX, hnil]; rfl
          subst hXn
          simp only [rM, hX]
          rcases hrt : rightT (mkX R i t) with _ | _
          · rw [hrt] at hR
            simp [hk]
            repeat' (first | intro _ | with_reducible refine And.intro ?_ ?_ | exact chkI (by kernel_rfl) | exact backI (by kernel_rfl) | (refine callA (by first | rfl | (simp; done) | (simp; rfl)) (c_there ..) ?_ <;> try simp [hrt]) | (refine callB (by first | rfl | (simp; done) | (simp; rfl)) (c_there ..) ?_ <;> try simp [hrt]) | (refine callA (by first | rfl | (simp; done) | (simp; rfl)) (c_right ..) ?_ <;> try simp [hrt]) | (refine callB (by first | rfl | (simp; done) | (simp; rfl)) (c_right ..) ?_ <;> try simp [hrt]) | (refine callA (by first | rfl | (simp; done) | (simp; rfl)) (c_CheckT ..) ?_ <;> try simp [hrt]) | (refine callB (by first | rfl | (simp; done) | (simp; rfl)) (c_CheckT ..) ?_ <;> try simp [hrt]) | (refine callA (by first | rfl | (simp; done) | (simp; rfl)) (c_CB ..) ?_ <;> try simp [hrt]) | (refine callB (by first | rfl | (simp; done) | (simp; rfl)) (c_CB ..) ?_ <;> try simp [hrt]) | (refine callA (by first | rfl | (simp; done) | (simp; rfl)) (c_CA ..) ?_ <;> try simp [hrt]) | (refine callB (by first | rfl | (simp; done) | (simp; rfl)) (c_CA ..) ?_ <;> try simp [hrt]) | (refine callA (by first | rfl | (simp; done) | (simp; rfl)) (c_Check ..) ?_ <;> try simp [hrt]) | (refine callB (by first | rfl | (simp; done) | (simp; rfl)) (c_Check ..) ?_ <;> try simp [hrt]) | (refine callA (by first | rfl | (simp; done) | (simp; rfl)) (c_few1 ..) ?_ <;> try simp [hrt]) | (refine callB (by first | rfl | (simp; done) | (simp; rfl)) (c_few1 ..) ?_ <;> try simp [hrt]) | (refine callA (by first | rfl | (simp; done) | (simp; rfl)) (c_few ..) ?_ <;> try simp [hrt]) | (refine callB (by first | rfl | (simp; done) | (simp; rfl)) (c_few ..) ?_ <;> try simp [hrt]) | (refine callA (by first | rfl | (simp; done) | (simp; rfl)) (c_awake ..) ?_ <;> try simp [hrt]) | (refine callB (by first | rfl | (simp; done) | (simp; rfl)) (c_awake ..) ?_ <;> try simp [hrt]) | (refine callA (by first | rfl | (simp; done)) hR ?_ <;> try simp) | fail)
            all_goals first | omega
          · rw [hrt] at hR
            have hn := hnext hrt
            simp [hk]
            repeat' (first | intro _ | with_reducible refine And.intro ?_ ?_ | exact chkI (by kernel_rfl) | exact backI (by kernel_rfl) | (refine callA (by first | rfl | (simp; done) | (simp; rfl)) (c_there ..) ?_ <;> try simp [hrt]) | (refine callB (by first | rfl | (simp; done) | (simp; rfl)) (c_there ..) ?_ <;> try simp [hrt]) | (refine callA (by first | rfl | (simp; done) | (simp; rfl)) (c_right ..) ?_ <;> try simp [hrt]) | (refine callB (by first | rfl | (simp; done) | (simp; rfl)) (c_right ..) ?_ <;> try simp [hrt]) | (refine callA (by first | rfl | (simp; done) | (simp; rfl)) (c_CheckT ..) ?_ <;> try simp [hrt]) | (refine callB (by first | rfl | (simp; done) | (simp; rfl)) (c_CheckT ..) ?_ <;> try simp [hrt]) | (refine callA (by first | rfl | (simp; done) | (simp; rfl)) (c_CB ..) ?_ <;> try simp [hrt]) | (refine callB (by first | rfl | (simp; done) | (simp; rfl)) (c_CB ..) ?_ <;> try simp [hrt]) | (refine callA (by first | rfl | (simp; done) | (simp; rfl)) (c_CA ..) ?_ <;> try simp [hrt]) | (refine callB (by first | rfl | (simp; done) | (simp; rfl)) (c_CA ..) ?_ <;> try simp [hrt]) | (refine callA (by first | rfl | (simp; done) | (simp; rfl)) (c_Check ..) ?_ <;> try simp [hrt]) | (refine callB (by first | rfl | (simp; done) | (simp; rfl)) (c_Check ..) ?_ <;> try simp [hrt]) | (refine callA (by first | rfl | (simp; done) | (simp; rfl)) (c_few1 ..) ?_ <;> try simp [hrt]) | (refine callB (by first | rfl | (simp; done) | (simp; rfl)) (c_few1 ..) ?_ <;> try simp [hrt]) | (refine callA (by first | rfl | (simp; done) | (simp; rfl)) (c_few ..) ?_ <;> try simp [hrt]) | (refine callB (by first | rfl | (simp; done) | (simp; rfl)) (c_few ..) ?_ <;> try simp [hrt]) | (refine callA (by first | rfl | (simp; done) | (simp; rfl)) (c_awake ..) ?_ <;> try simp [hrt]) | (refine callB (by first | rfl | (simp; done) | (simp; rfl)) (c_awake ..) ?_ <;> try simp [hrt]) | (refine callA (by first | rfl | (simp; done)) hR ?_ <;> try simp) | fail)
            all_goals first | omega | (refine Exists.intro (i + 1) (And.intro (by omega) (Exists.intro (R ++ [mkX R i t]) (And.intro ⟨by omega, hn⟩ (St.to_chk [(0, 5)] ?_)))); rw [hRx2]; simp [hw]; done)
        · have htl : X.take (k + 1) = X := List.take_of_length_le (by omega)
          simp only [rM, hX, htl]
          rcases hrt : rightT (mkX R i t) with _ | _
          · rw [hrt] at hR
            simp [hk]
            repeat' (first | intro _ | with_reducible refine And.intro ?_ ?_ | exact chkI (by kernel_rfl) | exact backI (by kernel_rfl) | (refine callA (by first | rfl | (simp; done) | (simp; rfl)) (c_there ..) ?_ <;> try simp [hrt]) | (refine callB (by first | rfl | (simp; done) | (simp; rfl)) (c_there ..) ?_ <;> try simp [hrt]) | (refine callA (by first | rfl | (simp; done) | (simp; rfl)) (c_right ..) ?_ <;> try simp [hrt]) | (refine callB (by first | rfl | (simp; done) | (simp; rfl)) (c_right ..) ?_ <;> try simp [hrt]) | (refine callA (by first | rfl | (simp; done) | (simp; rfl)) (c_CheckT ..) ?_ <;> try simp [hrt]) | (refine callB (by first | rfl | (simp; done) | (simp; rfl)) (c_CheckT ..) ?_ <;> try simp [hrt]) | (refine callA (by first | rfl | (simp; done) | (simp; rfl)) (c_CB ..) ?_ <;> try simp [hrt]) | (refine callB (by first | rfl | (simp; done) | (simp; rfl)) (c_CB ..) ?_ <;> try simp [hrt]) | (refine callA (by first | rfl | (simp; done) | (simp; rfl)) (c_CA ..) ?_ <;> try simp [hrt]) | (refine callB (by first | rfl | (simp; done) | (simp; rfl)) (c_CA ..) ?_ <;> try simp [hrt]) | (refine callA (by first | rfl | (simp; done) | (simp; rfl)) (c_Check ..) ?_ <;> try simp [hrt]) | (refine callB (by first | rfl | (simp; done) | (simp; rfl)) (c_Check ..) ?_ <;> try simp [hrt]) | (refine callA (by first | rfl | (simp; done) | (simp; rfl)) (c_few1 ..) ?_ <;> try simp [hrt]) | (refine callB (by first | rfl | (simp; done) | (simp; rfl)) (c_few1 ..) ?_ <;> try simp [hrt]) | (refine callA (by first | rfl | (simp; done) | (simp; rfl)) (c_few ..) ?_ <;> try simp [hrt]) | (refine callB (by first | rfl | (simp; done) | (simp; rfl)) (c_few ..) ?_ <;> try simp [hrt]) | (refine callA (by first | rfl | (simp; done) | (simp; rfl)) (c_awake ..) ?_ <;> try simp [hrt]) | (refine callB (by first | rfl | (simp; done) | (simp; rfl)) (c_awake ..) ?_ <;> try simp [hrt]) | (refine callA (by first | rfl | (simp; done)) hR ?_ <;> try simp) | fail)
            all_goals first | omega
          · rw [hrt] at hR
            have hn := hnext hrt
            simp [hk]
            repeat' (first | intro _ | with_reducible refine And.intro ?_ ?_ | exact chkI (by kernel_rfl) | exact backI (by kernel_rfl) | (refine callA (by first | rfl | (simp; done) | (simp; rfl)) (c_there ..) ?_ <;> try simp [hrt]) | (refine callB (by first | rfl | (simp; done) | (simp; rfl)) (c_there ..) ?_ <;> try simp [hrt]) | (refine callA (by first | rfl | (simp; done) | (simp; rfl)) (c_right ..) ?_ <;> try simp [hrt]) | (refine callB (by first | rfl | (simp; done) | (simp; rfl)) (c_right ..) ?_ <;> try simp [hrt]) | (refine callA (by first | rfl | (simp; done) | (simp; rfl)) (c_CheckT ..) ?_ <;> try simp [hrt]) | (refine callB (by first | rfl | (simp; done) | (simp; rfl)) (c_CheckT ..) ?_ <;> try simp [hrt]) | (refine callA (by first | rfl | (simp; done) | (simp; rfl)) (c_CB ..) ?_ <;> try simp [hrt]) | (refine callB (by first | rfl | (simp; done) | (simp; rfl)) (c_CB ..) ?_ <;> try simp [hrt]) | (refine callA (by first | rfl | (simp; done) | (simp; rfl)) (c_CA ..) ?_ <;> try simp [hrt]) | (refine callB (by first | rfl | (simp; done) | (simp; rfl)) (c_CA ..) ?_ <;> try simp [hrt]) | (refine callA (by first | rfl | (simp; done) | (simp; rfl)) (c_Check ..) ?_ <;> try simp [hrt]) | (refine callB (by first | rfl | (simp; done) | (simp; rfl)) (c_Check ..) ?_ <;> try simp [hrt]) | (refine callA (by first | rfl | (simp; done) | (simp; rfl)) (c_few1 ..) ?_ <;> try simp [hrt]) | (refine callB (by first | rfl | (simp; done) | (simp; rfl)) (c_few1 ..) ?_ <;> try simp [hrt]) | (refine callA (by first | rfl | (simp; done) | (simp; rfl)) (c_few ..) ?_ <;> try simp [hrt]) | (refine callB (by first | rfl | (simp; done) | (simp; rfl)) (c_few ..) ?_ <;> try simp [hrt]) | (refine callA (by first | rfl | (simp; done) | (simp; rfl)) (c_awake ..) ?_ <;> try simp [hrt]) | (refine callB (by first | rfl | (simp; done) | (simp; rfl)) (c_awake ..) ?_ <;> try simp [hrt]) | (refine callA (by first | rfl | (simp; done)) hR ?_ <;> try simp) | fail)
            all_goals first | omega | (refine Exists.intro (i + 1) (And.intro (by omega) (Exists.intro (R ++ [mkX R i t]) (And.intro ⟨by omega, hn⟩ (St.to_chk [(0, 5)] ?_)))); rw [hRx2]; simp [hw]; done)
    · obtain ⟨e1, e2⟩ := j2.run.ok j2.rd j2.right
      simp [hi]
      by_cases hz : R.length = 0
      · have hz' := eq_true hz
        repeat' (first | intro _ | with_reducible refine And.intro ?_ ?_ | exact chkI (by kernel_rfl) | exact backI (by kernel_rfl) | (refine callA (by first | rfl | (simp; done) | (simp; rfl)) (c_there ..) ?_ <;> try simp [e1, e2, hz']) | (refine callB (by first | rfl | (simp; done) | (simp; rfl)) (c_there ..) ?_ <;> try simp [e1, e2, hz']) | (refine callA (by first | rfl | (simp; done) | (simp; rfl)) (c_right ..) ?_ <;> try simp [e1, e2, hz']) | (refine callB (by first | rfl | (simp; done) | (simp; rfl)) (c_right ..) ?_ <;> try simp [e1, e2, hz']) | (refine callA (by first | rfl | (simp; done) | (simp; rfl)) (c_CheckT ..) ?_ <;> try simp [e1, e2, hz']) | (refine callB (by first | rfl | (simp; done) | (simp; rfl)) (c_CheckT ..) ?_ <;> try simp [e1, e2, hz']) | (refine callA (by first | rfl | (simp; done) | (simp; rfl)) (c_CB ..) ?_ <;> try simp [e1, e2, hz']) | (refine callB (by first | rfl | (simp; done) | (simp; rfl)) (c_CB ..) ?_ <;> try simp [e1, e2, hz']) | (refine callA (by first | rfl | (simp; done) | (simp; rfl)) (c_CA ..) ?_ <;> try simp [e1, e2, hz']) | (refine callB (by first | rfl | (simp; done) | (simp; rfl)) (c_CA ..) ?_ <;> try simp [e1, e2, hz']) | (refine callA (by first | rfl | (simp; done) | (simp; rfl)) (c_Check ..) ?_ <;> try simp [e1, e2, hz']) | (refine callB (by first | rfl | (simp; done) | (simp; rfl)) (c_Check ..) ?_ <;> try simp [e1, e2, hz']) | (refine callA (by first | rfl | (simp; done) | (simp; rfl)) (c_few1 ..) ?_ <;> try simp [e1, e2, hz']) | (refine callB (by first | rfl | (simp; done) | (simp; rfl)) (c_few1 ..) ?_ <;> try simp [e1, e2, hz']) | (refine callA (by first | rfl | (simp; done) | (simp; rfl)) (c_few ..) ?_ <;> try simp [e1, e2, hz']) | (refine callB (by first | rfl | (simp; done) | (simp; rfl)) (c_few ..) ?_ <;> try simp [e1, e2, hz']) | (refine callA (by first | rfl | (simp; done) | (simp; rfl)) (c_awake ..) ?_ <;> try simp [e1, e2, hz']) | (refine callB (by first | rfl | (simp; done) | (simp; rfl)) (c_awake ..) ?_ <;> try simp [e1, e2, hz']) | fail)
        all_goals first | omega | contradiction
      · obtain ⟨k, hk⟩ : ∃ k : Nat, at'.tmod (R.length : Int) = k := ⟨(at'.tmod (R.length : Int)).toNat, (Int.toNat_of_nonneg (Int.tmod_nonneg _ h0.1)).symm⟩
        have hlt : k < R.length := by
          have := Int.tmod_lt_of_pos at' (show (0 : Int) < (R.length : Int) by omega)
          omega
        have hwa : IntKind.i64.wrap at' = at' := wr64 (by omega) (by omega)
        obtain ⟨t, ht⟩ := getL_some hlt
        have hz' := eq_false hz
        have hlow := j2.low t (List.mem_of_getElem? ht)
        have hsm := hRs t (List.mem_of_getElem? ht)
        have hrl := hsm.rl
        rcases hrs : t.rs with _ | ⟨s, r⟩
        · skip
          repeat' (first | intro _ | with_reducible refine And.intro ?_ ?_ | exact chkI (by kernel_rfl) | exact backI (by kernel_rfl) | (refine callA (by first | rfl | (simp; done) | (simp; rfl)) (c_there ..) ?_ <;> try simp [e1, e2, hz', hwa, hk, ht, hrs]) | (refine callB (by first | rfl | (simp; done) | (simp; rfl)) (c_there ..) ?_ <;> try simp [e1, e2, hz', hwa, hk, ht, hrs]) | (refine callA (by first | rfl | (simp; done) | (simp; rfl)) (c_right ..) ?_ <;> try simp [e1, e2, hz', hwa, hk, ht, hrs]) | (refine callB (by first | rfl | (simp; done) | (simp; rfl)) (c_right ..) ?_ <;> try simp [e1, e2, hz', hwa, hk, ht, hrs]) | (refine callA (by first | rfl | (simp; done) | (simp; rfl)) (c_CheckT ..) ?_ <;> try simp [e1, e2, hz', hwa, hk, ht, hrs]) | (refine callB (by first | rfl | (simp; done) | (simp; rfl)) (c_CheckT ..) ?_ <;> try simp [e1, e2, hz', hwa, hk, ht, hrs]) | (refine callA (by first | rfl | (simp; done) | (simp; rfl)) (c_CB ..) ?_ <;> try simp [e1, e2, hz', hwa, hk, ht, hrs]) | (refine callB (by first | rfl | (simp; done) | (simp; rfl)) (c_CB ..) ?_ <;> try simp [e1, e2, hz', hwa, hk, ht, hrs]) | (refine callA (by first | rfl | (simp; done) | (simp; rfl)) (c_CA ..) ?_ <;> try simp [e1, e2, hz', hwa, hk, ht, hrs]) | (refine callB (by first | rfl | (simp; done) | (simp; rfl)) (c_CA ..) ?_ <;> try simp [e1, e2, hz', hwa, hk, ht, hrs]) | (refine callA (by first | rfl | (simp; done) | (simp; rfl)) (c_Check ..) ?_ <;> try simp [e1, e2, hz', hwa, hk, ht, hrs]) | (refine callB (by first | rfl | (simp; done) | (simp; rfl)) (c_Check ..) ?_ <;> try simp [e1, e2, hz', hwa, hk, ht, hrs]) | (refine callA (by first | rfl | (simp; done) | (simp; rfl)) (c_few1 ..) ?_ <;> try simp [e1, e2, hz', hwa, hk, ht, hrs]) | (refine callB (by first | rfl | (simp; done) | (simp; rfl)) (c_few1 ..) ?_ <;> try simp [e1, e2, hz', hwa, hk, ht, hrs]) | (refine callA (by first | rfl | (simp; done) | (simp; rfl)) (c_few ..) ?_ <;> try simp [e1, e2, hz', hwa, hk, ht, hrs]) | (refine callB (by first | rfl | (simp; done) | (simp; rfl)) (c_few ..) ?_ <;> try simp [e1, e2, hz', hwa, hk, ht, hrs]) | (refine callA (by first | rfl | (simp; done) | (simp; rfl)) (c_awake ..) ?_ <;> try simp [e1, e2, hz', hwa, hk, ht, hrs]) | (refine callB (by first | rfl | (simp; done) | (simp; rfl)) (c_awake ..) ?_ <;> try simp [e1, e2, hz', hwa, hk, ht, hrs]) | fail)
          all_goals first | omega | contradiction
        · obtain ⟨p1, p2⟩ := j2.run.late j2.rd j2.right ht (by rw [hrs]; simp) hlow
          have hs1 := hlow s (by rw [hrs]; simp)
          have hrl2 : r.length + 1 ≤ 100 := by rw [hrs] at hrl; simpa using hrl
          have hws : IntKind.i64.wrap (s.tm + 1) = s.tm + 1 := wr64 (by omega) (by omega)
          have hlate : (late t).cs = [i64 t.cl, i64 t.nm, i64 t.tm, i64 t.ac, .sl ([.str s.key, i64 (s.tm + 1), i64 s.ac, .str s.val] :: r.map Sn.cs), .sl (t.ws.map Wr.cs), i64 t.oc] := by simp [late, hrs]
          have hC := c_Check (R.set k (late t)) (by simp; omega) (fun x hx => by
            rcases List.mem_or_eq_of_mem_set hx with hx | rfl
            · exact hRs x hx
            · refine ⟨by simpa [late, hrs] using hrl, hsm.wl, fun y hy => ?_, hsm.wk⟩
              simp only [late, hrs, List.mem_cons] at hy
              rcases hy with rfl | hy
              · exact hsm.rk s (by rw [hrs]; simp)
              · exact hsm.rk y (by rw [hrs]; simp [hy]))
          rw [p1, p2, List.map_set, hlate] at hC
          repeat' (first | intro _ | with_reducible refine And.intro ?_ ?_ | exact chkI (by kernel_rfl) | exact backI (by kernel_rfl) | (refine callA (by first | rfl | (simp; done) | (simp; rfl)) (c_there ..) ?_ <;> try simp [e1, e2, hz', hwa, hk, ht, hrs, hws]) | (refine callB (by first | rfl | (simp; done) | (simp; rfl)) (c_there ..) ?_ <;> try simp [e1, e2, hz', hwa, hk, ht, hrs, hws]) | (refine callA (by first | rfl | (simp; done) | (simp; rfl)) (c_right ..) ?_ <;> try simp [e1, e2, hz', hwa, hk, ht, hrs, hws]) | (refine callB (by first | rfl | (simp; done) | (simp; rfl)) (c_right ..) ?_ <;> try simp [e1, e2, hz', hwa, hk, ht, hrs, hws]) | (refine callA (by first | rfl | (simp; done) | (simp; rfl)) (c_CheckT ..) ?_ <;> try simp [e1, e2, hz', hwa, hk, ht, hrs, hws]) | (refine callB (by first | rfl | (simp; done) | (simp; rfl)) (c_CheckT ..) ?_ <;> try simp [e1, e2, hz', hwa, hk, ht, hrs, hws]) | (refine callA (by first | rfl | (simp; done) | (simp; rfl)) (c_CB ..) ?_ <;> try simp [e1, e2, hz', hwa, hk, ht, hrs, hws]) | (refine callB (by first | rfl | (simp; done) | (simp; rfl)) (c_CB ..) ?_ <;> try simp [e1, e2, hz', hwa, hk, ht, hrs, hws]) | (refine callA (by first | rfl | (simp; done) | (simp; rfl)) (c_CA ..) ?_ <;> try simp [e1, e2, hz', hwa, hk, ht, hrs, hws]) | (refine callB (by first | rfl | (simp; done) | (simp; rfl)) (c_CA ..) ?_ <;> try simp [e1, e2, hz', hwa, hk, ht, hrs, hws]) | (refine callA (by first | rfl | (simp; done) | (simp; rfl)) (c_Check ..) ?_ <;> try simp [e1, e2, hz', hwa, hk, ht, hrs, hws]) | (refine callB (by first | rfl | (simp; done) | (simp; rfl)) (c_Check ..) ?_ <;> try simp [e1, e2, hz', hwa, hk, ht, hrs, hws]) | (refine callA (by first | rfl | (simp; done) | (simp; rfl)) (c_few1 ..) ?_ <;> try simp [e1, e2, hz', hwa, hk, ht, hrs, hws]) | (refine callB (by first | rfl | (simp; done) | (simp; rfl)) (c_few1 ..) ?_ <;> try simp [e1, e2, hz', hwa, hk, ht, hrs, hws]) | (refine callA (by first | rfl | (simp; done) | (simp; rfl)) (c_few ..) ?_ <;> try simp [e1, e2, hz', hwa, hk, ht, hrs, hws]) | (refine callB (by first | rfl | (simp; done) | (simp; rfl)) (c_few ..) ?_ <;> try simp [e1, e2, hz', hwa, hk, ht, hrs, hws]) | (refine callA (by first | rfl | (simp; done) | (simp; rfl)) (c_awake ..) ?_ <;> try simp [e1, e2, hz', hwa, hk, ht, hrs, hws]) | (refine callB (by first | rfl | (simp; done) | (simp; rfl)) (c_awake ..) ?_ <;> try simp [e1, e2, hz', hwa, hk, ht, hrs, hws]) | (refine callA (by first | rfl | (simp; done)) hC ?_ <;> try simp) | fail)
          all_goals first | omega | contradiction
end Go.Proofs.Ytnldlkkcdgdkgaa.AX
