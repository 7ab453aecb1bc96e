/- Commands that may be, by the document. -/
import Derived.Test.YtalkadbpdaoifaaWi5
namespace Go.Proofs.Ytalkadbpdaoifaa.AX
open Go Go.RowKit
set_option linter.unusedSimpArgs false
set_option linter.unusedVariables false
set_option maxRecDepth 100000
set_option maxHeartbeats 4000000
def Cmd.guard (c : Cmd) : Bool := decide (c.kind = 1 ∨ c.kind = 2) && (okTxn c.cl c.nm && (okStm c.tm c.ac && (decide (1 ≤ c.tm) && (decide (c.ac = c.cl) && (decide (1 ≤ c.sh ∧ c.sh ≤ 15) && (decide (c.rs.length + c.ws.length ≠ 0) && !(c.cm && decide (c.kind = 1))))))))
theorem Cmd.right_kind {c : Cmd} (h : ¬ c.kind = 0) : c.right = (c.guard && (c.rs.all c.oldR && (c.ws.all shortW && (okKeys (c.rs.map (·.key)) && okKeys (c.ws.map (·.key)))))) := by
  simp only [Cmd.right, if_neg h, Cmd.guard]
theorem aw_loopKA {P : Program} {draws : List Oper → (St → Prop) → St → Prop} {Q : Exit → St → Prop} {α : Type} (W : List Nat) (up : α → List (Nat × V)) (M : α → List (Nat × AO)) (n1 : Nat) (μ : α → Nat) (x : α) {c : Code} {e : List (Nat × V)} {m : List (Nat × AO)} {n t : Nat} (h0 : (St.mk e m n t).to n ⟨up x ++ pick e W, M x ++ m, n1, t⟩)
    (h : ∀ y, aw P draws c (exK Q (fun st' => ∃ z, μ z < μ y ∧ st'.to n ⟨up z ++ pick e W, M z ++ m, n1, t⟩)) ⟨up y ++ pick e W, M y ++ m, n1, t⟩) : aw P draws (.loop c) Q ⟨e, m, n, t⟩ :=
  aw_loop (fun y => ⟨up y ++ pick e W, M y ++ m, n1, t⟩) μ x h0 h
theorem stm_low {t a : Int} (h : okStm t a = true) : 0 ≤ t := by simp [okStm] at h; omega
theorem c_right' (c : Cmd) (hc : c.Small := by assumption) : Pure Try.prog 19 [.agg c.cs] (.bool c.right) := by
  have h1 := hc.rl
  have h2 := hc.wl
  have hk1 : (c.rs.map (·.key)).length ≤ 4611686018427387904 := by simp; omega
  have hk2 : (c.ws.map (·.key)).length ≤ 4611686018427387904 := by simp; omega
  have hs1 : ∀ k ∈ c.rs.map (·.key), k.size ≤ 4611686018427387904 := by
    intro k hk
    obtain ⟨r, hr, rfl⟩ := List.mem_map.1 hk
    have := hc.rk r hr
    omega
  have hs2 : ∀ k ∈ c.ws.map (·.key), k.size ≤ 4611686018427387904 := by
    intro k hk
    obtain ⟨r, hr, rfl⟩ := List.mem_map.1 hk
    have := (hc.wk r hr).1
    omega
  by_cases h0 : c.kind = 0
  · have e : c.right = (decide (c.cl = 0) && (decide (c.nm = 0) && (decide (c.tm = 0) && (decide (c.ac = 0) && (decide (c.sh = 0) && (decide (c.cm = false) && (decide (c.rs = []) && decide (c.ws = [])))))))) := by
      simp only [Cmd.right, if_pos h0, Cmd.same, Cmd.zero, h0]
      cases c.rs <;> cases c.ws <;> cases c.cm <;> simp [eqL] <;> rfl
    rw [e]
    refine pureQ_of_aw dOk Try.func19 rfl rfl rfl rfl rfl ?_
    simp [Try.f19, h0]
    (repeat' (first | intro _ | with_reducible refine And.intro ?_ ?_ | exact chkI (by kernel_rfl) | exact backI (by kernel_rfl) | (refine callA (by first | rfl | (simp; done) | (simp; rfl)) (c_rTxn' ..) ?_ <;> try simp) | (refine callB (by first | rfl | (simp; done) | (simp; rfl)) (c_rTxn' ..) ?_ <;> try simp) | (refine callA (by first | rfl | (simp; done) | (simp; rfl)) (c_rStm' ..) ?_ <;> try simp) | (refine callB (by first | rfl | (simp; done) | (simp; rfl)) (c_rStm' ..) ?_ <;> try simp) | (refine callA (by first | rfl | (simp; done) | (simp; rfl)) (c_before' ..) ?_ <;> try simp) | (refine callB (by first | rfl | (simp; done) | (simp; rfl)) (c_before' ..) ?_ <;> try simp) | (refine callA (by first | rfl | (simp; done) | (simp; rfl)) (c_rKeys' ..) ?_ <;> try simp) | (refine callB (by first | rfl | (simp; done) | (simp; rfl)) (c_rKeys' ..) ?_ <;> try simp) | fail)) <;> (first | done | omega | (refine St.to_chk [] ?_; simp_all; done) | (simp_all; done) | grind)
  · by_cases hg : c.guard = true
    · have hr := Cmd.right_kind h0
      rw [hg, Bool.true_and] at hr
      simp only [Cmd.guard, Bool.and_eq_true, decide_eq_true_eq] at hg
      obtain ⟨g1, g2, g3, g4, g5, g6, g7, g8⟩ := hg
      have g9 : ¬ c.tm = 0 := by omega
      have g10 : 0 < c.sh := by omega
      have g11 : c.sh < 16 := by omega
      have g12 : ¬ (c.rs = [] ∧ c.ws = []) := by rintro ⟨e1, e2⟩; simp [e1, e2] at g7
      have f0 := eq_false h0
      have f5 := eq_true g5
      have f9 := eq_false g9
      have f10 := eq_true g10
      have f11 := eq_true g11
      have f12 : (c.sh ≤ 0) = False := eq_false (by omega)
      have f13 : (16 ≤ c.sh) = False := eq_false (by omega)
      rcases g1 with g1 | g1 <;> by_cases g14 : c.rs = []
      · have g13 : c.cm = false := by simpa [g1] using g8
        have f1 := eq_true g1
        have f14 := eq_true g14
        have f15 := eq_false (fun e => g12 ⟨g14, e⟩)
        refine pureQ_of_aw dOk Try.func19 rfl rfl rfl rfl rfl ?_
        simp [Try.f19, f0, f1, g2, g3, f5, f9, f10, f11, f12, f13, g13, f14, f15]
        repeat' (first | intro _ | with_reducible refine And.intro ?_ ?_ | exact chkI (by kernel_rfl) | exact backI (by kernel_rfl) | (refine callA (by first | rfl | (simp; done) | (simp; rfl)) (c_rTxn' ..) ?_ <;> try simp [f0, f1, g2, g3, f5, f9, f10, f11, f12, f13, g13, f14, f15]) | (refine callB (by first | rfl | (simp; done) | (simp; rfl)) (c_rTxn' ..) ?_ <;> try simp [f0, f1, g2, g3, f5, f9, f10, f11, f12, f13, g13, f14, f15]) | (refine callA (by first | rfl | (simp; done) | (simp; rfl)) (c_rStm' ..) ?_ <;> try simp [f0, f1, g2, g3, f5, f9, f10, f11, f12, f13, g13, f14, f15]) | (refine callB (by first | rfl | (simp; done) | (simp; rfl)) (c_rStm' ..) ?_ <;> try simp [f0, f1, g2, g3, f5, f9, f10, f11, f12, f13, g13, f14, f15]) | (refine callA (by first | rfl | (simp; done) | (simp; rfl)) (c_before' ..) ?_ <;> try simp [f0, f1, g2, g3, f5, f9, f10, f11, f12, f13, g13, f14, f15]) | (refine callB (by first | rfl | (simp; done) | (simp; rfl)) (c_before' ..) ?_ <;> try simp [f0, f1, g2, g3, f5, f9, f10, f11, f12, f13, g13, f14, f15]) | (refine callA (by first | rfl | (simp; done) | (simp; rfl)) (c_rKeys' ..) ?_ <;> try simp [f0, f1, g2, g3, f5, f9, f10, f11, f12, f13, g13, f14, f15]) | (refine callB (by first | rfl | (simp; done) | (simp; rfl)) (c_rKeys' ..) ?_ <;> try simp [f0, f1, g2, g3, f5, f9, f10, f11, f12, f13, g13, f14, f15]) | fail)
        refine aw_loopKA (α := {i : Nat // i ≤ c.rs.length ∧ c.rs.all c.oldR = (c.rs.drop i).all c.oldR}) [1, 5, 6, 140, 141, 142, 143, 144, 145, 146, 147, 148, 149, 150, 151, 152, 153, 154, 155, 156, 157, 158, 159, 160, 161, 162, 163, 164, 165, 166, 167, 168, 169] (fun i => [(4, i64 i.1), (3, .rf 1)]) (fun i => [(1, .row false 9 1 (strs ((c.rs.map (·.key)).take i.1)))]) 2 (fun i => c.rs.length - i.1) ⟨0, by simp⟩ ((St.to_own 3 9 1 rfl (Nat.le_refl _)).trans (St.to_chk [] (by simp [strs]))) ?_
        rintro ⟨i, j1, j2⟩
        dsimp only
        by_cases hi : i < c.rs.length
        · obtain ⟨x, hx⟩ := getL_some hi
          have hw := wrI hi (by omega)
          have hm := strs_more (l := c.rs.map (·.key)) (i := i) (k := x.key) (by simp [hx])
          rw [all_step hx, Cmd.oldR] at j2
          simp [hx]
          (repeat' (first | intro _ | with_reducible refine And.intro ?_ ?_ | exact chkI (by kernel_rfl) | exact backI (by kernel_rfl) | (refine callA (by first | rfl | (simp; done) | (simp; rfl)) (c_rTxn' ..) ?_ <;> try simp [hx]) | (refine callB (by first | rfl | (simp; done) | (simp; rfl)) (c_rTxn' ..) ?_ <;> try simp [hx]) | (refine callA (by first | rfl | (simp; done) | (simp; rfl)) (c_rStm' ..) ?_ <;> try simp [hx]) | (refine callB (by first | rfl | (simp; done) | (simp; rfl)) (c_rStm' ..) ?_ <;> try simp [hx]) | (refine callA (by first | rfl | (simp; done) | (simp; rfl)) (c_before' ..) ?_ <;> try simp [hx]) | (refine callB (by first | rfl | (simp; done) | (simp; rfl)) (c_before' ..) ?_ <;> try simp [hx]) | (refine callA (by first | rfl | (simp; done) | (simp; rfl)) (c_rKeys' ..) ?_ <;> try simp [hx]) | (refine callB (by first | rfl | (simp; done) | (simp; rfl)) (c_rKeys' ..) ?_ <;> try simp [hx]) | (refine Exists.intro (i + 1) (And.intro (by omega) (And.intro (And.intro (by omega) (by first | (simp [*]; done) | grind | (simp_all; done))) (St.to_chk [(1, 23)] (by simp [hw, hm]))))) | fail)) <;> (first | done | omega | (refine St.to_chk [] ?_; simp_all; done) | (simp_all; done) | grind)
        · have hle : c.rs.length ≤ i := by omega
          rw [List.drop_eq_nil_of_le hle, List.all_nil] at j2
          rw [j2, Bool.true_and] at hr
          have ht : (c.rs.map (·.key)).take i = c.rs.map (·.key) := List.take_of_length_le (by simp; omega)
          have hi' : i = c.rs.length := by omega
          rw [ht]
          simp [hi]
          refine aw_loopKA (α := {i : Nat // i ≤ c.ws.length ∧ c.ws.all shortW = (c.ws.drop i).all shortW}) [1, 3, 164, 165, 166, 167, 168, 169] (fun i => [(6, i64 i.1), (5, .rf 2)]) (fun i => [(2, .row false 9 1 (strs ((c.ws.map (·.key)).take i.1)))]) 3 (fun i => c.ws.length - i.1) ⟨0, by simp⟩ ((St.to_own 5 9 1 rfl (Nat.le_refl _)).trans (St.to_chk [] (by simp [strs]))) ?_
          rintro ⟨q, k1, k2⟩
          dsimp only
          by_cases hq : q < c.ws.length
          · obtain ⟨x, hx⟩ := getL_some hq
            have hw := wrI hq (by omega)
            have hm := strs_more (l := c.ws.map (·.key)) (i := q) (k := x.key) (by simp [hx])
            rw [all_step hx, shortW] at k2
            simp [hx]
            (repeat' (first | intro _ | with_reducible refine And.intro ?_ ?_ | exact chkI (by kernel_rfl) | exact backI (by kernel_rfl) | (refine callA (by first | rfl | (simp; done) | (simp; rfl)) (c_rTxn' ..) ?_ <;> try simp [hx]) | (refine callB (by first | rfl | (simp; done) | (simp; rfl)) (c_rTxn' ..) ?_ <;> try simp [hx]) | (refine callA (by first | rfl | (simp; done) | (simp; rfl)) (c_rStm' ..) ?_ <;> try simp [hx]) | (refine callB (by first | rfl | (simp; done) | (simp; rfl)) (c_rStm' ..) ?_ <;> try simp [hx]) | (refine callA (by first | rfl | (simp; done) | (simp; rfl)) (c_before' ..) ?_ <;> try simp [hx]) | (refine callB (by first | rfl | (simp; done) | (simp; rfl)) (c_before' ..) ?_ <;> try simp [hx]) | (refine callA (by first | rfl | (simp; done) | (simp; rfl)) (c_rKeys' ..) ?_ <;> try simp [hx]) | (refine callB (by first | rfl | (simp; done) | (simp; rfl)) (c_rKeys' ..) ?_ <;> try simp [hx]) | (refine Exists.intro (q + 1) (And.intro (by omega) (And.intro (And.intro (by omega) (by first | (simp [*]; done) | grind | (simp_all; done))) (St.to_chk [(2, 4)] (by simp [hw, hm]))))) | fail)) <;> (first | done | omega | (refine St.to_chk [] ?_; simp_all; done) | (simp_all; done) | grind)
          · have hle : c.ws.length ≤ q := by omega
            rw [List.drop_eq_nil_of_le hle, List.all_nil] at k2
            rw [k2, Bool.true_and] at hr
            have ht : (c.ws.map (·.key)).take q = c.ws.map (·.key) := List.take_of_length_le (by simp; omega)
            rw [ht]
            simp [hq]
            (repeat' (first | intro _ | with_reducible refine And.intro ?_ ?_ | exact chkI (by kernel_rfl) | exact backI (by kernel_rfl) | (refine callA (by first | rfl | (simp; done) | (simp; rfl)) (c_rTxn' ..) ?_ <;> try simp) | (refine callB (by first | rfl | (simp; done) | (simp; rfl)) (c_rTxn' ..) ?_ <;> try simp) | (refine callA (by first | rfl | (simp; done) | (simp; rfl)) (c_rStm' ..) ?_ <;> try simp) | (refine callB (by first | rfl | (simp; done) | (simp; rfl)) (c_rStm' ..) ?_ <;> try simp) | (refine callA (by first | rfl | (simp; done) | (simp; rfl)) (c_before' ..) ?_ <;> try simp) | (refine callB (by first | rfl | (simp; done) | (simp; rfl)) (c_before' ..) ?_ <;> try simp) | (refine callA (by first | rfl | (simp; done) | (simp; rfl)) (c_rKeys' ..) ?_ <;> try simp) | (refine callB (by first | rfl | (simp; done) | (simp; rfl)) (c_rKeys' ..) ?_ <;> try simp) | fail)) <;> (first | done | omega | (refine St.to_chk [] ?_; simp_all; done) | (simp_all; done) | grind)
      · have g13 : c.cm = false := by simpa [g1] using g8
        have f1 := eq_true g1
        have f14 := eq_false g14
        refine pureQ_of_aw dOk Try.func19 rfl rfl rfl rfl rfl ?_
        simp [Try.f19, f0, f1, g2, g3, f5, f9, f10, f11, f12, f13, g13, f14]
        repeat' (first | intro _ | with_reducible refine And.intro ?_ ?_ | exact chkI (by kernel_rfl) | exact backI (by kernel_rfl) | (refine callA (by first | rfl | (simp; done) | (simp; rfl)) (c_rTxn' ..) ?_ <;> try simp [f0, f1, g2, g3, f5, f9, f10, f11, f12, f13, g13, f14]) | (refine callB (by first | rfl | (simp; done) | (simp; rfl)) (c_rTxn' ..) ?_ <;> try simp [f0, f1, g2, g3, f5, f9, f10, f11, f12, f13, g13, f14]) | (refine callA (by first | rfl | (simp; done) | (simp; rfl)) (c_rStm' ..) ?_ <;> try simp [f0, f1, g2, g3, f5, f9, f10, f11, f12, f13, g13, f14]) | (refine callB (by first | rfl | (simp; done) | (simp; rfl)) (c_rStm' ..) ?_ <;> try simp [f0, f1, g2, g3, f5, f9, f10, f11, f12, f13, g13, f14]) | (refine callA (by first | rfl | (simp; done) | (simp; rfl)) (c_before' ..) ?_ <;> try simp [f0, f1, g2, g3, f5, f9, f10, f11, f12, f13, g13, f14]) | (refine callB (by first | rfl | (simp; done) | (simp; rfl)) (c_before' ..) ?_ <;> try simp [f0, f1, g2, g3, f5, f9, f10, f11, f12, f13, g13, f14]) | (refine callA (by first | rfl | (simp; done) | (simp; rfl)) (c_rKeys' ..) ?_ <;> try simp [f0, f1, g2, g3, f5, f9, f10, f11, f12, f13, g13, f14]) | (refine callB (by first | rfl | (simp; done) | (simp; rfl)) (c_rKeys' ..) ?_ <;> try simp [f0, f1, g2, g3, f5, f9, f10, f11, f12, f13, g13, f14]) | fail)
        refine aw_loopKA (α := {i : Nat // i ≤ c.rs.length ∧ c.rs.all c.oldR = (c.rs.drop i).all c.oldR}) [1, 5, 6, 140, 141, 142, 143, 144, 145, 146, 147, 148, 149, 150, 151, 152, 153, 154, 155, 156, 157, 158, 159, 160, 161, 162, 163, 164, 165, 166, 167, 168, 169] (fun i => [(4, i64 i.1), (3, .rf 1)]) (fun i => [(1, .row false 9 1 (strs ((c.rs.map (·.key)).take i.1)))]) 2 (fun i => c.rs.length - i.1) ⟨0, by simp⟩ ((St.to_own 3 9 1 rfl (Nat.le_refl _)).trans (St.to_chk [] (by simp [strs]))) ?_
        rintro ⟨i, j1, j2⟩
        dsimp only
        by_cases hi : i < c.rs.length
        · obtain ⟨x, hx⟩ := getL_some hi
          have hw := wrI hi (by omega)
          have hm := strs_more (l := c.rs.map (·.key)) (i := i) (k := x.key) (by simp [hx])
          rw [all_step hx, Cmd.oldR] at j2
          simp [hx]
          (repeat' (first | intro _ | with_reducible refine And.intro ?_ ?_ | exact chkI (by kernel_rfl) | exact backI (by kernel_rfl) | (refine callA (by first | rfl | (simp; done) | (simp; rfl)) (c_rTxn' ..) ?_ <;> try simp [hx]) | (refine callB (by first | rfl | (simp; done) | (simp; rfl)) (c_rTxn' ..) ?_ <;> try simp [hx]) | (refine callA (by first | rfl | (simp; done) | (simp; rfl)) (c_rStm' ..) ?_ <;> try simp [hx]) | (refine callB (by first | rfl | (simp; done) | (simp; rfl)) (c_rStm' ..) ?_ <;> try simp [hx]) | (refine callA (by first | rfl | (simp; done) | (simp; rfl)) (c_before' ..) ?_ <;> try simp [hx]) | (refine callB (by first | rfl | (simp; done) | (simp; rfl)) (c_before' ..) ?_ <;> try simp [hx]) | (refine callA (by first | rfl | (simp; done) | (simp; rfl)) (c_rKeys' ..) ?_ <;> try simp [hx]) | (refine callB (by first | rfl | (simp; done) | (simp; rfl)) (c_rKeys' ..) ?_ <;> try simp [hx]) | (refine Exists.intro (i + 1) (And.intro (by omega) (And.intro (And.intro (by omega) (by first | (simp [*]; done) | grind | (simp_all; done))) (St.to_chk [(1, 23)] (by simp [hw, hm]))))) | fail)) <;> (first | done | omega | (refine St.to_chk [] ?_; simp_all; done) | (simp_all; done) | grind)
        · have hle : c.rs.length ≤ i := by omega
          rw [List.drop_eq_nil_of_le hle, List.all_nil] at j2
          rw [j2, Bool.true_and] at hr
          have ht : (c.rs.map (·.key)).take i = c.rs.map (·.key) := List.take_of_length_le (by simp; omega)
          have hi' : i = c.rs.length := by omega
          rw [ht]
          simp [hi]
          refine aw_loopKA (α := {i : Nat // i ≤ c.ws.length ∧ c.ws.all shortW = (c.ws.drop i).all shortW}) [1, 3, 164, 165, 166, 167, 168, 169] (fun i => [(6, i64 i.1), (5, .rf 2)]) (fun i => [(2, .row false 9 1 (strs ((c.ws.map (·.key)).take i.1)))]) 3 (fun i => c.ws.length - i.1) ⟨0, by simp⟩ ((St.to_own 5 9 1 rfl (Nat.le_refl _)).trans (St.to_chk [] (by simp [strs]))) ?_
          rintro ⟨q, k1, k2⟩
          dsimp only
          by_cases hq : q < c.ws.length
          · obtain ⟨x, hx⟩ := getL_some hq
            have hw := wrI hq (by omega)
            have hm := strs_more (l := c.ws.map (·.key)) (i := q) (k := x.key) (by simp [hx])
            rw [all_step hx, shortW] at k2
            simp [hx]
            (repeat' (first | intro _ | with_reducible refine And.intro ?_ ?_ | exact chkI (by kernel_rfl) | exact backI (by kernel_rfl) | (refine callA (by first | rfl | (simp; done) | (simp; rfl)) (c_rTxn' ..) ?_ <;> try simp [hx]) | (refine callB (by first | rfl | (simp; done) | (simp; rfl)) (c_rTxn' ..) ?_ <;> try simp [hx]) | (refine callA (by first | rfl | (simp; done) | (simp; rfl)) (c_rStm' ..) ?_ <;> try simp [hx]) | (refine callB (by first | rfl | (simp; done) | (simp; rfl)) (c_rStm' ..) ?_ <;> try simp [hx]) | (refine callA (by first | rfl | (simp; done) | (simp; rfl)) (c_before' ..) ?_ <;> try simp [hx]) | (refine callB (by first | rfl | (simp; done) | (simp; rfl)) (c_before' ..) ?_ <;> try simp [hx]) | (refine callA (by first | rfl | (simp; done) | (simp; rfl)) (c_rKeys' ..) ?_ <;> try simp [hx]) | (refine callB (by first | rfl | (simp; done) | (simp; rfl)) (c_rKeys' ..) ?_ <;> try simp [hx]) | (refine Exists.intro (q + 1) (And.intro (by omega) (And.intro (And.intro (by omega) (by first | (simp [*]; done) | grind | (simp_all; done))) (St.to_chk [(2, 4)] (by simp [hw, hm]))))) | fail)) <;> (first | done | omega | (refine St.to_chk [] ?_; simp_all; done) | (simp_all; done) | grind)
          · have hle : c.ws.length ≤ q := by omega
            rw [List.drop_eq_nil_of_le hle, List.all_nil] at k2
            rw [k2, Bool.true_and] at hr
            have ht : (c.ws.map (·.key)).take q = c.ws.map (·.key) := List.take_of_length_le (by simp; omega)
            rw [ht]
            simp [hq]
            (repeat' (first | intro _ | with_reducible refine And.intro ?_ ?_ | exact chkI (by kernel_rfl) | exact backI (by kernel_rfl) | (refine callA (by first | rfl | (simp; done) | (simp; rfl)) (c_rTxn' ..) ?_ <;> try simp) | (refine callB (by first | rfl | (simp; done) | (simp; rfl)) (c_rTxn' ..) ?_ <;> try simp) | (refine callA (by first | rfl | (simp; done) | (simp; rfl)) (c_rStm' ..) ?_ <;> try simp) | (refine callB (by first | rfl | (simp; done) | (simp; rfl)) (c_rStm' ..) ?_ <;> try simp) | (refine callA (by first | rfl | (simp; done) | (simp; rfl)) (c_before' ..) ?_ <;> try simp) | (refine callB (by first | rfl | (simp; done) | (simp; rfl)) (c_before' ..) ?_ <;> try simp) | (refine callA (by first | rfl | (simp; done) | (simp; rfl)) (c_rKeys' ..) ?_ <;> try simp) | (refine callB (by first | rfl | (simp; done) | (simp; rfl)) (c_rKeys' ..) ?_ <;> try simp) | fail)) <;> (first | done | omega | (refine St.to_chk [] ?_; simp_all; done) | (simp_all; done) | grind)
      · have f1 := eq_true g1
        have f1' : (c.kind = 1) = False := eq_false (by omega)
        have f14 := eq_true g14
        have f15 := eq_false (fun e => g12 ⟨g14, e⟩)
        refine pureQ_of_aw dOk Try.func19 rfl rfl rfl rfl rfl ?_
        simp [Try.f19, f0, f1, f1', g2, g3, f5, f9, f10, f11, f12, f13, f14, f15]
        repeat' (first | intro _ | with_reducible refine And.intro ?_ ?_ | exact chkI (by kernel_rfl) | exact backI (by kernel_rfl) | (refine callA (by first | rfl | (simp; done) | (simp; rfl)) (c_rTxn' ..) ?_ <;> try simp [f0, f1, f1', g2, g3, f5, f9, f10, f11, f12, f13, f14, f15]) | (refine callB (by first | rfl | (simp; done) | (simp; rfl)) (c_rTxn' ..) ?_ <;> try simp [f0, f1, f1', g2, g3, f5, f9, f10, f11, f12, f13, f14, f15]) | (refine callA (by first | rfl | (simp; done) | (simp; rfl)) (c_rStm' ..) ?_ <;> try simp [f0, f1, f1', g2, g3, f5, f9, f10, f11, f12, f13, f14, f15]) | (refine callB (by first | rfl | (simp; done) | (simp; rfl)) (c_rStm' ..) ?_ <;> try simp [f0, f1, f1', g2, g3, f5, f9, f10, f11, f12, f13, f14, f15]) | (refine callA (by first | rfl | (simp; done) | (simp; rfl)) (c_before' ..) ?_ <;> try simp [f0, f1, f1', g2, g3, f5, f9, f10, f11, f12, f13, f14, f15]) | (refine callB (by first | rfl | (simp; done) | (simp; rfl)) (c_before' ..) ?_ <;> try simp [f0, f1, f1', g2, g3, f5, f9, f10, f11, f12, f13, f14, f15]) | (refine callA (by first | rfl | (simp; done) | (simp; rfl)) (c_rKeys' ..) ?_ <;> try simp [f0, f1, f1', g2, g3, f5, f9, f10, f11, f12, f13, f14, f15]) | (refine callB (by first | rfl | (simp; done) | (simp; rfl)) (c_rKeys' ..) ?_ <;> try simp [f0, f1, f1', g2, g3, f5, f9, f10, f11, f12, f13, f14, f15]) | fail)
        refine aw_loopKA (α := {i : Nat // i ≤ c.rs.length ∧ c.rs.all c.oldR = (c.rs.drop i).all c.oldR}) [1, 5, 6, 140, 141, 142, 143, 144, 145, 146, 147, 148, 149, 150, 151, 152, 153, 154, 155, 156, 157, 158, 159, 160, 161, 162, 163, 164, 165, 166, 167, 168, 169] (fun i => [(4, i64 i.1), (3, .rf 1)]) (fun i => [(1, .row false 9 1 (strs ((c.rs.map (·.key)).take i.1)))]) 2 (fun i => c.rs.length - i.1) ⟨0, by simp⟩ ((St.to_own 3 9 1 rfl (Nat.le_refl _)).trans (St.to_chk [] (by simp [strs]))) ?_
        rintro ⟨i, j1, j2⟩
        dsimp only
        by_cases hi : i < c.rs.length
        · obtain ⟨x, hx⟩ := getL_some hi
          have hw := wrI hi (by omega)
          have hm := strs_more (l := c.rs.map (·.key)) (i := i) (k := x.key) (by simp [hx])
          rw [all_step hx, Cmd.oldR] at j2
          simp [hx]
          (repeat' (first | intro _ | with_reducible refine And.intro ?_ ?_ | exact chkI (by kernel_rfl) | exact backI (by kernel_rfl) | (refine callA (by first | rfl | (simp; done) | (simp; rfl)) (c_rTxn' ..) ?_ <;> try simp [hx]) | (refine callB (by first | rfl | (simp; done) | (simp; rfl)) (c_rTxn' ..) ?_ <;> try simp [hx]) | (refine callA (by first | rfl | (simp; done) | (simp; rfl)) (c_rStm' ..) ?_ <;> try simp [hx]) | (refine callB (by first | rfl | (simp; done) | (simp; rfl)) (c_rStm' ..) ?_ <;> try simp [hx]) | (refine callA (by first | rfl | (simp; done) | (simp; rfl)) (c_before' ..) ?_ <;> try simp [hx]) | (refine callB (by first | rfl | (simp; done) | (simp; rfl)) (c_before' ..) ?_ <;> try simp [hx]) | (refine callA (by first | rfl | (simp; done) | (simp; rfl)) (c_rKeys' ..) ?_ <;> try simp [hx]) | (refine callB (by first | rfl | (simp; done) | (simp; rfl)) (c_rKeys' ..) ?_ <;> try simp [hx]) | (refine Exists.intro (i + 1) (And.intro (by omega) (And.intro (And.intro (by omega) (by first | (simp [*]; done) | grind | (simp_all; done))) (St.to_chk [(1, 23)] (by simp [hw, hm]))))) | fail)) <;> (first | done | omega | (refine St.to_chk [] ?_; simp_all; done) | (simp_all; done) | grind)
        · have hle : c.rs.length ≤ i := by omega
          rw [List.drop_eq_nil_of_le hle, List.all_nil] at j2
          rw [j2, Bool.true_and] at hr
          have ht : (c.rs.map (·.key)).take i = c.rs.map (·.key) := List.take_of_length_le (by simp; omega)
          have hi' : i = c.rs.length := by omega
          rw [ht]
          simp [hi]
          refine aw_loopKA (α := {i : Nat // i ≤ c.ws.length ∧ c.ws.all shortW = (c.ws.drop i).all shortW}) [1, 3, 164, 165, 166, 167, 168, 169] (fun i => [(6, i64 i.1), (5, .rf 2)]) (fun i => [(2, .row false 9 1 (strs ((c.ws.map (·.key)).take i.1)))]) 3 (fun i => c.ws.length - i.1) ⟨0, by simp⟩ ((St.to_own 5 9 1 rfl (Nat.le_refl _)).trans (St.to_chk [] (by simp [strs]))) ?_
          rintro ⟨q, k1, k2⟩
          dsimp only
          by_cases hq : q < c.ws.length
          · obtain ⟨x, hx⟩ := getL_some hq
            have hw := wrI hq (by omega)
            have hm := strs_more (l := c.ws.map (·.key)) (i := q) (k := x.key) (by simp [hx])
            rw [all_step hx, shortW] at k2
            simp [hx]
            (repeat' (first | intro _ | with_reducible refine And.intro ?_ ?_ | exact chkI (by kernel_rfl) | exact backI (by kernel_rfl) | (refine callA (by first | rfl | (simp; done) | (simp; rfl)) (c_rTxn' ..) ?_ <;> try simp [hx]) | (refine callB (by first | rfl | (simp; done) | (simp; rfl)) (c_rTxn' ..) ?_ <;> try simp [hx]) | (refine callA (by first | rfl | (simp; done) | (simp; rfl)) (c_rStm' ..) ?_ <;> try simp [hx]) | (refine callB (by first | rfl | (simp; done) | (simp; rfl)) (c_rStm' ..) ?_ <;> try simp [hx]) | (refine callA (by first | rfl | (simp; done) | (simp; rfl)) (c_before' ..) ?_ <;> try simp [hx]) | (refine callB (by first | rfl | (simp; done) | (simp; rfl)) (c_before' ..) ?_ <;> try simp [hx]) | (refine callA (by first | rfl | (simp; done) | (simp; rfl)) (c_rKeys' ..) ?_ <;> try simp [hx]) | (refine callB (by first | rfl | (simp; done) | (simp; rfl)) (c_rKeys' ..) ?_ <;> try simp [hx]) | (refine Exists.intro (q + 1) (And.intro (by omega) (And.intro (And.intro (by omega) (by first | (simp [*]; done) | grind | (simp_all; done))) (St.to_chk [(2, 4)] (by simp [hw, hm]))))) | fail)) <;> (first | done | omega | (refine St.to_chk [] ?_; simp_all; done) | (simp_all; done) | grind)
          · have hle : c.ws.length ≤ q := by omega
            rw [List.drop_eq_nil_of_le hle, List.all_nil] at k2
            rw [k2, Bool.true_and] at hr
            have ht : (c.ws.map (·.key)).take q = c.ws.map (·.key) := List.take_of_length_le (by simp; omega)
            rw [ht]
            simp [hq]
            (repeat' (first | intro _ | with_reducible refine And.intro ?_ ?_ | exact chkI (by kernel_rfl) | exact backI (by kernel_rfl) | (refine callA (by first | rfl | (simp; done) | (simp; rfl)) (c_rTxn' ..) ?_ <;> try simp) | (refine callB (by first | rfl | (simp; done) | (simp; rfl)) (c_rTxn' ..) ?_ <;> try simp) | (refine callA (by first | rfl | (simp; done) | (simp; rfl)) (c_rStm' ..) ?_ <;> try simp) | (refine callB (by first | rfl | (simp; done) | (simp; rfl)) (c_rStm' ..) ?_ <;> try simp) | (refine callA (by first | rfl | (simp; done) | (simp; rfl)) (c_before' ..) ?_ <;> try simp) | (refine callB (by first | rfl | (simp; done) | (simp; rfl)) (c_before' ..) ?_ <;> try simp) | (refine callA (by first | rfl | (simp; done) | (simp; rfl)) (c_rKeys' ..) ?_ <;> try simp) | (refine callB (by first | rfl | (simp; done) | (simp; rfl)) (c_rKeys' ..) ?_ <;> try simp) | fail)) <;> (first | done | omega | (refine St.to_chk [] ?_; simp_all; done) | (simp_all; done) | grind)
      · have f1 := eq_true g1
        have f1' : (c.kind = 1) = False := eq_false (by omega)
        have f14 := eq_false g14
        refine pureQ_of_aw dOk Try.func19 rfl rfl rfl rfl rfl ?_
        simp [Try.f19, f0, f1, f1', g2, g3, f5, f9, f10, f11, f12, f13, f14]
        repeat' (first | intro _ | with_reducible refine And.intro ?_ ?_ | exact chkI (by kernel_rfl) | exact backI (by kernel_rfl) | (refine callA (by first | rfl | (simp; done) | (simp; rfl)) (c_rTxn' ..) ?_ <;> try simp [f0, f1, f1', g2, g3, f5, f9, f10, f11, f12, f13, f14]) | (refine callB (by first | rfl | (simp; done) | (simp; rfl)) (c_rTxn' ..) ?_ <;> try simp [f0, f1, f1', g2, g3, f5, f9, f10, f11, f12, f13, f14]) | (refine callA (by first | rfl | (simp; done) | (simp; rfl)) (c_rStm' ..) ?_ <;> try simp [f0, f1, f1', g2, g3, f5, f9, f10, f11, f12, f13, f14]) | (refine callB (by first | rfl | (simp; done) | (simp; rfl)) (c_rStm' ..) ?_ <;> try simp [f0, f1, f1', g2, g3, f5, f9, f10, f11, f12, f13, f14]) | (refine callA (by first | rfl | (simp; done) | (simp; rfl)) (c_before' ..) ?_ <;> try simp [f0, f1, f1', g2, g3, f5, f9, f10, f11, f12, f13, f14]) | (refine callB (by first | rfl | (simp; done) | (simp; rfl)) (c_before' ..) ?_ <;> try simp [f0, f1, f1', g2, g3, f5, f9, f10, f11, f12, f13, f14]) | (refine callA (by first | rfl | (simp; done) | (simp; rfl)) (c_rKeys' ..) ?_ <;> try simp [f0, f1, f1', g2, g3, f5, f9, f10, f11, f12, f13, f14]) | (refine callB (by first | rfl | (simp; done) | (simp; rfl)) (c_rKeys' ..) ?_ <;> try simp [f0, f1, f1', g2, g3, f5, f9, f10, f11, f12, f13, f14]) | fail)
        refine aw_loopKA (α := {i : Nat // i ≤ c.rs.length ∧ c.rs.all c.oldR = (c.rs.drop i).all c.oldR}) [1, 5, 6, 140, 141, 142, 143, 144, 145, 146, 147, 148, 149, 150, 151, 152, 153, 154, 155, 156, 157, 158, 159, 160, 161, 162, 163, 164, 165, 166, 167, 168, 169] (fun i => [(4, i64 i.1), (3, .rf 1)]) (fun i => [(1, .row false 9 1 (strs ((c.rs.map (·.key)).take i.1)))]) 2 (fun i => c.rs.length - i.1) ⟨0, by simp⟩ ((St.to_own 3 9 1 rfl (Nat.le_refl _)).trans (St.to_chk [] (by simp [strs]))) ?_
        rintro ⟨i, j1, j2⟩
        dsimp only
        by_cases hi : i < c.rs.length
        · obtain ⟨x, hx⟩ := getL_some hi
          have hw := wrI hi (by omega)
          have hm := strs_more (l := c.rs.map (·.key)) (i := i) (k := x.key) (by simp [hx])
          rw [all_step hx, Cmd.oldR] at j2
          simp [hx]
          (repeat' (first | intro _ | with_reducible refine And.intro ?_ ?_ | exact chkI (by kernel_rfl) | exact backI (by kernel_rfl) | (refine callA (by first | rfl | (simp; done) | (simp; rfl)) (c_rTxn' ..) ?_ <;> try simp [hx]) | (refine callB (by first | rfl | (simp; done) | (simp; rfl)) (c_rTxn' ..) ?_ <;> try simp [hx]) | (refine callA (by first | rfl | (simp; done) | (simp; rfl)) (c_rStm' ..) ?_ <;> try simp [hx]) | (refine callB (by first | rfl | (simp; done) | (simp; rfl)) (c_rStm' ..) ?_ <;> try simp [hx]) | (refine callA (by first | rfl | (simp; done) | (simp; rfl)) (c_before' ..) ?_ <;> try simp [hx]) | (refine callB (by first | rfl | (simp; done) | (simp; rfl)) (c_before' ..) ?_ <;> try simp [hx]) | (refine callA (by first | rfl | (simp; done) | (simp; rfl)) (c_rKeys' ..) ?_ <;> try simp [hx]) | (refine callB (by first | rfl | (simp; done) | (simp; rfl)) (c_rKeys' ..) ?_ <;> try simp [hx]) | (refine Exists.intro (i + 1) (And.intro (by omega) (And.intro (And.intro (by omega) (by first | (simp [*]; done) | grind | (simp_all; done))) (St.to_chk [(1, 23)] (by simp [hw, hm]))))) | fail)) <;> (first | done | omega | (refine St.to_chk [] ?_; simp_all; done) | (simp_all; done) | grind)
        · have hle : c.rs.length ≤ i := by omega
          rw [List.drop_eq_nil_of_le hle, List.all_nil] at j2
          rw [j2, Bool.true_and] at hr
          have ht : (c.rs.map (·.key)).take i = c.rs.map (·.key) := List.take_of_length_le (by simp; omega)
          have hi' : i = c.rs.length := by omega
          rw [ht]
          simp [hi]
          refine aw_loopKA (α := {i : Nat // i ≤ c.ws.length ∧ c.ws.all shortW = (c.ws.drop i).all shortW}) [1, 3, 164, 165, 166, 167, 168, 169] (fun i => [(6, i64 i.1), (5, .rf 2)]) (fun i => [(2, .row false 9 1 (strs ((c.ws.map (·.key)).take i.1)))]) 3 (fun i => c.ws.length - i.1) ⟨0, by simp⟩ ((St.to_own 5 9 1 rfl (Nat.le_refl _)).trans (St.to_chk [] (by simp [strs]))) ?_
          rintro ⟨q, k1, k2⟩
          dsimp only
          by_cases hq : q < c.ws.length
          · obtain ⟨x, hx⟩ := getL_some hq
            have hw := wrI hq (by omega)
            have hm := strs_more (l := c.ws.map (·.key)) (i := q) (k := x.key) (by simp [hx])
            rw [all_step hx, shortW] at k2
            simp [hx]
            (repeat' (first | intro _ | with_reducible refine And.intro ?_ ?_ | exact chkI (by kernel_rfl) | exact backI (by kernel_rfl) | (refine callA (by first | rfl | (simp; done) | (simp; rfl)) (c_rTxn' ..) ?_ <;> try simp [hx]) | (refine callB (by first | rfl | (simp; done) | (simp; rfl)) (c_rTxn' ..) ?_ <;> try simp [hx]) | (refine callA (by first | rfl | (simp; done) | (simp; rfl)) (c_rStm' ..) ?_ <;> try simp [hx]) | (refine callB (by first | rfl | (simp; done) | (simp; rfl)) (c_rStm' ..) ?_ <;> try simp [hx]) | (refine callA (by first | rfl | (simp; done) | (simp; rfl)) (c_before' ..) ?_ <;> try simp [hx]) | (refine callB (by first | rfl | (simp; done) | (simp; rfl)) (c_before' ..) ?_ <;> try simp [hx]) | (refine callA (by first | rfl | (simp; done) | (simp; rfl)) (c_rKeys' ..) ?_ <;> try simp [hx]) | (refine callB (by first | rfl | (simp; done) | (simp; rfl)) (c_rKeys' ..) ?_ <;> try simp [hx]) | (refine Exists.intro (q + 1) (And.intro (by omega) (And.intro (And.intro (by omega) (by first | (simp [*]; done) | grind | (simp_all; done))) (St.to_chk [(2, 4)] (by simp [hw, hm]))))) | fail)) <;> (first | done | omega | (refine St.to_chk [] ?_; simp_all; done) | (simp_all; done) | grind)
          · have hle : c.ws.length ≤ q := by omega
            rw [List.drop_eq_nil_of_le hle, List.all_nil] at k2
            rw [k2, Bool.true_and] at hr
            have ht : (c.ws.map (·.key)).take q = c.ws.map (·.key) := List.take_of_length_le (by simp; omega)
            rw [ht]
            simp [hq]
            (repeat' (first | intro _ | with_reducible refine And.intro ?_ ?_ | exact chkI (by kernel_rfl) | exact backI (by kernel_rfl) | (refine callA (by first | rfl | (simp; done) | (simp; rfl)) (c_rTxn' ..) ?_ <;> try simp) | (refine callB (by first | rfl | (simp; done) | (simp; rfl)) (c_rTxn' ..) ?_ <;> try simp) | (refine callA (by first | rfl | (simp; done) | (simp; rfl)) (c_rStm' ..) ?_ <;> try simp) | (refine callB (by first | rfl | (simp; done) | (simp; rfl)) (c_rStm' ..) ?_ <;> try simp) | (refine callA (by first | rfl | (simp; done) | (simp; rfl)) (c_before' ..) ?_ <;> try simp) | (refine callB (by first | rfl | (simp; done) | (simp; rfl)) (c_before' ..) ?_ <;> try simp) | (refine callA (by first | rfl | (simp; done) | (simp; rfl)) (c_rKeys' ..) ?_ <;> try simp) | (refine callB (by first | rfl | (simp; done) | (simp; rfl)) (c_rKeys' ..) ?_ <;> try simp) | fail)) <;> (first | done | omega | (refine St.to_chk [] ?_; simp_all; done) | (simp_all; done) | grind)
    · have hg' : c.guard = false := by simpa using hg
      rw [Cmd.right_kind h0, hg', Bool.false_and]
      have hneg : ¬ ((c.kind = 1 ∨ c.kind = 2) ∧ okTxn c.cl c.nm = true ∧ okStm c.tm c.ac = true ∧ 1 ≤ c.tm ∧ c.ac = c.cl ∧ (1 ≤ c.sh ∧ c.sh ≤ 15) ∧ c.rs.length + c.ws.length ≠ 0 ∧ (c.cm = true → ¬ c.kind = 1)) := by
        rintro ⟨a1, a2, a3, a4, a5, a6, a7, a8⟩
        refine hg ?_
        simp only [Cmd.guard, Bool.and_eq_true, decide_eq_true_eq]
        refine ⟨a1, a2, a3, a4, a5, a6, a7, ?_⟩
        cases hcm : c.cm with
        | false => rfl
        | true => simp [a8 hcm]
      have hlow : okStm c.tm c.ac = true → 0 ≤ c.tm := stm_low
      have hn1 : c.rs.length = 0 ↔ c.rs = [] := List.length_eq_zero_iff
      have hn2 : c.ws.length = 0 ↔ c.ws = [] := List.length_eq_zero_iff
      refine pureQ_of_aw dOk Try.func19 rfl rfl rfl rfl rfl ?_
      simp [Try.f19, h0]
      repeat' (first | intro _ | with_reducible refine And.intro ?_ ?_ | exact chkI (by kernel_rfl) | exact backI (by kernel_rfl) | (refine callA (by first | rfl | (simp; done) | (simp; rfl)) (c_rTxn' ..) ?_ <;> try simp) | (refine callB (by first | rfl | (simp; done) | (simp; rfl)) (c_rTxn' ..) ?_ <;> try simp) | (refine callA (by first | rfl | (simp; done) | (simp; rfl)) (c_rStm' ..) ?_ <;> try simp) | (refine callB (by first | rfl | (simp; done) | (simp; rfl)) (c_rStm' ..) ?_ <;> try simp) | (refine callA (by first | rfl | (simp; done) | (simp; rfl)) (c_before' ..) ?_ <;> try simp) | (refine callB (by first | rfl | (simp; done) | (simp; rfl)) (c_before' ..) ?_ <;> try simp) | (refine callA (by first | rfl | (simp; done) | (simp; rfl)) (c_rKeys' ..) ?_ <;> try simp) | (refine callB (by first | rfl | (simp; done) | (simp; rfl)) (c_rKeys' ..) ?_ <;> try simp) | fail)
      all_goals first | rfl | (exact (hneg ⟨by omega, by assumption, by assumption, by (have := hlow (by assumption); omega), by assumption, ⟨by omega, by omega⟩, by first | (intro e; exact absurd (hn1.1 (by omega)) (by assumption)) | (intro e; exact absurd (hn2.1 (by omega)) (by assumption)), by first | omega | (intro e; simp_all)⟩).elim)
end Go.Proofs.Ytalkadbpdaoifaa.AX
