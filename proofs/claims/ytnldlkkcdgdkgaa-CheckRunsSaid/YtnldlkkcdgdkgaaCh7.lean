/- Whether a trip may be, by the program and as the document has it. -/
import Derived.Test.YtnldlkkcdgdkgaaCh5
namespace Go.Proofs.Ytnldlkkcdgdkgaa.AX
open Go Go.RowKit
set_option linter.unusedSimpArgs false
set_option linter.unusedVariables false
set_option maxRecDepth 100000
set_option maxHeartbeats 4000000
theorem strs_more {l : List ByteArray} {i : Nat} {k : ByteArray} (h : l[i]? = some k) : strs (l.take (i + 1)) = strs (l.take i) ++ [[.str k]] := by
  simp [strs, List.take_add_one, h]
theorem str_len {l : List ByteArray} {x : List V} (h : x ∈ strs l) : x.length = 1 := by
  obtain ⟨m, -, rfl⟩ := List.mem_map.1 h
  rfl
def okSn (s : Sn) : Bool := okStm s.tm s.ac && decide (s.val.size ≤ 8)
def okWr (w : Wr) : Bool := decide (w.val.size ≤ 8)
def rkeys (t : Trp) : List ByteArray := t.rs.map (·.key)
def wkeys (t : Trp) : List ByteArray := t.ws.map (·.key)
def headT (t : Trp) : Prop := okTxn t.cl t.nm = true ∧ okStm t.tm t.ac = true ∧ 1 ≤ t.tm ∧ 0 ≤ t.oc ∧ t.oc ≤ 2
instance (t : Trp) : Decidable (headT t) := by unfold headT; infer_instance
def rightT (t : Trp) : Bool := decide (headT t) && (t.rs.all okSn && (t.ws.all okWr && (okKeys (rkeys t) && okKeys (wkeys t))))
theorem rightT_head {t : Trp} (h : ¬ headT t) : rightT t = false := by simp [rightT, h]
theorem rightT_rs {t : Trp} (h : t.rs.all okSn = false) : rightT t = false := by rw [rightT, h]; simp
theorem rightT_ws {t : Trp} (h : t.ws.all okWr = false) : rightT t = false := by rw [rightT, h]; simp
theorem rightT_all {t : Trp} (h : headT t) (h1 : t.rs.all okSn = true) (h2 : t.ws.all okWr = true) : rightT t = (okKeys (rkeys t) && okKeys (wkeys t)) := by simp only [rightT, h, h1, h2, decide_true, Bool.true_and]
theorem c_right (t : Trp) (hs : t.Small := by assumption) : Pure Try.prog 14 [.agg t.cs] (.bool (rightT t)) := by
  have r1 := hs.rl
  have r2 := hs.wl
  have rl1 : (rkeys t).length = t.rs.length := by simp [rkeys]
  have rl2 : (wkeys t).length = t.ws.length := by simp [wkeys]
  rcases h1 : okTxn t.cl t.nm with _ | _
  · skip
    rw [rightT_head (fun h => by rw [h.1] at h1; cases h1)]
    refine pureQ_of_aw dOk Try.func14 rfl rfl rfl rfl rfl ?_
    simp [Try.f14, h1]
    repeat' (first | intro _ | with_reducible refine And.intro ?_ ?_ | exact chkI (by kernel_rfl) | exact backI (by kernel_rfl) | (refine callA (by first | rfl | (simp; done) | (simp; rfl)) (c_rTxn ..) ?_ <;> try simp [h1]) | (refine callB (by first | rfl | (simp; done) | (simp; rfl)) (c_rTxn ..) ?_ <;> try simp [h1]) | (refine callA (by first | rfl | (simp; done) | (simp; rfl)) (c_rTxn ..) ?_ <;> try simp [h1]) | (refine callB (by first | rfl | (simp; done) | (simp; rfl)) (c_rTxn ..) ?_ <;> try simp [h1]) | (refine callA (by first | rfl | (simp; done) | (simp; rfl)) (c_rStm ..) ?_ <;> try simp [h1]) | (refine callB (by first | rfl | (simp; done) | (simp; rfl)) (c_rStm ..) ?_ <;> try simp [h1]) | (refine callA (by first | rfl | (simp; done) | (simp; rfl)) (c_rStm ..) ?_ <;> try simp [h1]) | (refine callB (by first | rfl | (simp; done) | (simp; rfl)) (c_rStm ..) ?_ <;> try simp [h1]) | (refine callA (by first | rfl | (simp; done) | (simp; rfl)) (c_rKeys ..) ?_ <;> try simp [h1]) | (refine callB (by first | rfl | (simp; done) | (simp; rfl)) (c_rKeys ..) ?_ <;> try simp [h1]) | (refine callA (by first | rfl | (simp; done) | (simp; rfl)) (c_rKeys ..) ?_ <;> try simp [h1]) | (refine callB (by first | rfl | (simp; done) | (simp; rfl)) (c_rKeys ..) ?_ <;> try simp [h1]) | fail)
    all_goals first | omega | contradiction
  · skip
    rcases h2 : okStm t.tm t.ac with _ | _
    · skip
      rw [rightT_head (fun h => by rw [h.2.1] at h2; cases h2)]
      refine pureQ_of_aw dOk Try.func14 rfl rfl rfl rfl rfl ?_
      simp [Try.f14, h1, h2]
      repeat' (first | intro _ | with_reducible refine And.intro ?_ ?_ | exact chkI (by kernel_rfl) | exact backI (by kernel_rfl) | (refine callA (by first | rfl | (simp; done) | (simp; rfl)) (c_rTxn ..) ?_ <;> try simp [h1, h2]) | (refine callB (by first | rfl | (simp; done) | (simp; rfl)) (c_rTxn ..) ?_ <;> try simp [h1, h2]) | (refine callA (by first | rfl | (simp; done) | (simp; rfl)) (c_rTxn ..) ?_ <;> try simp [h1, h2]) | (refine callB (by first | rfl | (simp; done) | (simp; rfl)) (c_rTxn ..) ?_ <;> try simp [h1, h2]) | (refine callA (by first | rfl | (simp; done) | (simp; rfl)) (c_rStm ..) ?_ <;> try simp [h1, h2]) | (refine callB (by first | rfl | (simp; done) | (simp; rfl)) (c_rStm ..) ?_ <;> try simp [h1, h2]) | (refine callA (by first | rfl | (simp; done) | (simp; rfl)) (c_rStm ..) ?_ <;> try simp [h1, h2]) | (refine callB (by first | rfl | (simp; done) | (simp; rfl)) (c_rStm ..) ?_ <;> try simp [h1, h2]) | (refine callA (by first | rfl | (simp; done) | (simp; rfl)) (c_rKeys ..) ?_ <;> try simp [h1, h2]) | (refine callB (by first | rfl | (simp; done) | (simp; rfl)) (c_rKeys ..) ?_ <;> try simp [h1, h2]) | (refine callA (by first | rfl | (simp; done) | (simp; rfl)) (c_rKeys ..) ?_ <;> try simp [h1, h2]) | (refine callB (by first | rfl | (simp; done) | (simp; rfl)) (c_rKeys ..) ?_ <;> try simp [h1, h2]) | fail)
      all_goals first | omega | contradiction
    · skip
      by_cases h3 : t.tm < 1
      · have h3' := eq_true h3
        rw [rightT_head (fun h => by have := h.2.2.1; omega)]
        refine pureQ_of_aw dOk Try.func14 rfl rfl rfl rfl rfl ?_
        simp [Try.f14, h1, h2, h3']
        repeat' (first | intro _ | with_reducible refine And.intro ?_ ?_ | exact chkI (by kernel_rfl) | exact backI (by kernel_rfl) | (refine callA (by first | rfl | (simp; done) | (simp; rfl)) (c_rTxn ..) ?_ <;> try simp [h1, h2, h3']) | (refine callB (by first | rfl | (simp; done) | (simp; rfl)) (c_rTxn ..) ?_ <;> try simp [h1, h2, h3']) | (refine callA (by first | rfl | (simp; done) | (simp; rfl)) (c_rTxn ..) ?_ <;> try simp [h1, h2, h3']) | (refine callB (by first | rfl | (simp; done) | (simp; rfl)) (c_rTxn ..) ?_ <;> try simp [h1, h2, h3']) | (refine callA (by first | rfl | (simp; done) | (simp; rfl)) (c_rStm ..) ?_ <;> try simp [h1, h2, h3']) | (refine callB (by first | rfl | (simp; done) | (simp; rfl)) (c_rStm ..) ?_ <;> try simp [h1, h2, h3']) | (refine callA (by first | rfl | (simp; done) | (simp; rfl)) (c_rStm ..) ?_ <;> try simp [h1, h2, h3']) | (refine callB (by first | rfl | (simp; done) | (simp; rfl)) (c_rStm ..) ?_ <;> try simp [h1, h2, h3']) | (refine callA (by first | rfl | (simp; done) | (simp; rfl)) (c_rKeys ..) ?_ <;> try simp [h1, h2, h3']) | (refine callB (by first | rfl | (simp; done) | (simp; rfl)) (c_rKeys ..) ?_ <;> try simp [h1, h2, h3']) | (refine callA (by first | rfl | (simp; done) | (simp; rfl)) (c_rKeys ..) ?_ <;> try simp [h1, h2, h3']) | (refine callB (by first | rfl | (simp; done) | (simp; rfl)) (c_rKeys ..) ?_ <;> try simp [h1, h2, h3']) | fail)
        all_goals first | omega | contradiction
      · have h3' := eq_false h3
        by_cases h4 : t.oc < 0
        · have h4' := eq_true h4
          rw [rightT_head (fun h => by have := h.2.2.2.1; omega)]
          refine pureQ_of_aw dOk Try.func14 rfl rfl rfl rfl rfl ?_
          simp [Try.f14, h1, h2, h3', h4']
          repeat' (first | intro _ | with_reducible refine And.intro ?_ ?_ | exact chkI (by kernel_rfl) | exact backI (by kernel_rfl) | (refine callA (by first | rfl | (simp; done) | (simp; rfl)) (c_rTxn ..) ?_ <;> try simp [h1, h2, h3', h4']) | (refine callB (by first | rfl | (simp; done) | (simp; rfl)) (c_rTxn ..) ?_ <;> try simp [h1, h2, h3', h4']) | (refine callA (by first | rfl | (simp; done) | (simp; rfl)) (c_rTxn ..) ?_ <;> try simp [h1, h2, h3', h4']) | (refine callB (by first | rfl | (simp; done) | (simp; rfl)) (c_rTxn ..) ?_ <;> try simp [h1, h2, h3', h4']) | (refine callA (by first | rfl | (simp; done) | (simp; rfl)) (c_rStm ..) ?_ <;> try simp [h1, h2, h3', h4']) | (refine callB (by first | rfl | (simp; done) | (simp; rfl)) (c_rStm ..) ?_ <;> try simp [h1, h2, h3', h4']) | (refine callA (by first | rfl | (simp; done) | (simp; rfl)) (c_rStm ..) ?_ <;> try simp [h1, h2, h3', h4']) | (refine callB (by first | rfl | (simp; done) | (simp; rfl)) (c_rStm ..) ?_ <;> try simp [h1, h2, h3', h4']) | (refine callA (by first | rfl | (simp; done) | (simp; rfl)) (c_rKeys ..) ?_ <;> try simp [h1, h2, h3', h4']) | (refine callB (by first | rfl | (simp; done) | (simp; rfl)) (c_rKeys ..) ?_ <;> try simp [h1, h2, h3', h4']) | (refine callA (by first | rfl | (simp; done) | (simp; rfl)) (c_rKeys ..) ?_ <;> try simp [h1, h2, h3', h4']) | (refine callB (by first | rfl | (simp; done) | (simp; rfl)) (c_rKeys ..) ?_ <;> try simp [h1, h2, h3', h4']) | fail)
          all_goals first | omega | contradiction
        · have h4' := eq_false h4
          by_cases h5 : 2 < t.oc
          · have h5' := eq_true h5
            rw [rightT_head (fun h => by have := h.2.2.2.2; omega)]
            refine pureQ_of_aw dOk Try.func14 rfl rfl rfl rfl rfl ?_
            simp [Try.f14, h1, h2, h3', h4', h5']
            repeat' (first | intro _ | with_reducible refine And.intro ?_ ?_ | exact chkI (by kernel_rfl) | exact backI (by kernel_rfl) | (refine callA (by first | rfl | (simp; done) | (simp; rfl)) (c_rTxn ..) ?_ <;> try simp [h1, h2, h3', h4', h5']) | (refine callB (by first | rfl | (simp; done) | (simp; rfl)) (c_rTxn ..) ?_ <;> try simp [h1, h2, h3', h4', h5']) | (refine callA (by first | rfl | (simp; done) | (simp; rfl)) (c_rTxn ..) ?_ <;> try simp [h1, h2, h3', h4', h5']) | (refine callB (by first | rfl | (simp; done) | (simp; rfl)) (c_rTxn ..) ?_ <;> try simp [h1, h2, h3', h4', h5']) | (refine callA (by first | rfl | (simp; done) | (simp; rfl)) (c_rStm ..) ?_ <;> try simp [h1, h2, h3', h4', h5']) | (refine callB (by first | rfl | (simp; done) | (simp; rfl)) (c_rStm ..) ?_ <;> try simp [h1, h2, h3', h4', h5']) | (refine callA (by first | rfl | (simp; done) | (simp; rfl)) (c_rStm ..) ?_ <;> try simp [h1, h2, h3', h4', h5']) | (refine callB (by first | rfl | (simp; done) | (simp; rfl)) (c_rStm ..) ?_ <;> try simp [h1, h2, h3', h4', h5']) | (refine callA (by first | rfl | (simp; done) | (simp; rfl)) (c_rKeys ..) ?_ <;> try simp [h1, h2, h3', h4', h5']) | (refine callB (by first | rfl | (simp; done) | (simp; rfl)) (c_rKeys ..) ?_ <;> try simp [h1, h2, h3', h4', h5']) | (refine callA (by first | rfl | (simp; done) | (simp; rfl)) (c_rKeys ..) ?_ <;> try simp [h1, h2, h3', h4', h5']) | (refine callB (by first | rfl | (simp; done) | (simp; rfl)) (c_rKeys ..) ?_ <;> try simp [h1, h2, h3', h4', h5']) | fail)
            all_goals first | omega | contradiction
          · have h5' := eq_false h5
            have hh : headT t := ⟨h1, h2, by omega, by omega, by omega⟩
            refine pureQ_of_aw dOk Try.func14 rfl rfl rfl rfl rfl ?_
            simp [Try.f14, h1, h2, h3', h4', h5']
            repeat' (first | intro _ | with_reducible refine And.intro ?_ ?_ | exact chkI (by kernel_rfl) | exact backI (by kernel_rfl) | (refine callA (by first | rfl | (simp; done) | (simp; rfl)) (c_rTxn ..) ?_ <;> try simp [h1, h2, h3', h4', h5']) | (refine callB (by first | rfl | (simp; done) | (simp; rfl)) (c_rTxn ..) ?_ <;> try simp [h1, h2, h3', h4', h5']) | (refine callA (by first | rfl | (simp; done) | (simp; rfl)) (c_rTxn ..) ?_ <;> try simp [h1, h2, h3', h4', h5']) | (refine callB (by first | rfl | (simp; done) | (simp; rfl)) (c_rTxn ..) ?_ <;> try simp [h1, h2, h3', h4', h5']) | (refine callA (by first | rfl | (simp; done) | (simp; rfl)) (c_rStm ..) ?_ <;> try simp [h1, h2, h3', h4', h5']) | (refine callB (by first | rfl | (simp; done) | (simp; rfl)) (c_rStm ..) ?_ <;> try simp [h1, h2, h3', h4', h5']) | (refine callA (by first | rfl | (simp; done) | (simp; rfl)) (c_rStm ..) ?_ <;> try simp [h1, h2, h3', h4', h5']) | (refine callB (by first | rfl | (simp; done) | (simp; rfl)) (c_rStm ..) ?_ <;> try simp [h1, h2, h3', h4', h5']) | (refine callA (by first | rfl | (simp; done) | (simp; rfl)) (c_rKeys ..) ?_ <;> try simp [h1, h2, h3', h4', h5']) | (refine callB (by first | rfl | (simp; done) | (simp; rfl)) (c_rKeys ..) ?_ <;> try simp [h1, h2, h3', h4', h5']) | (refine callA (by first | rfl | (simp; done) | (simp; rfl)) (c_rKeys ..) ?_ <;> try simp [h1, h2, h3', h4', h5']) | (refine callB (by first | rfl | (simp; done) | (simp; rfl)) (c_rKeys ..) ?_ <;> try simp [h1, h2, h3', h4', h5']) | fail)
            refine aw_loopKM (α := {i : Nat // i ≤ t.rs.length ∧ t.rs.all okSn = (t.rs.drop i).all okSn}) [1, 4, 8, 36, 37, 58, 59, 60, 61, 62, 63, 64, 65, 66, 67, 68, 69, 70, 71, 72, 73, 74, 75, 76, 77, 78, 79, 80] (fun i => [(38, i64 i.1), (3, .rf 1)]) (fun i => [(0, .box false 38 t.cs), (1, .row false 9 1 (strs ((rkeys t).take i.1)))]) 2 (fun i => t.rs.length - i.1) ⟨0, by simp⟩ ((St.to_own 3 9 1 rfl (by simp)).trans (St.to_chk [] (by simp [strs]))) ?_
            rintro ⟨i, j1, j2⟩
            dsimp only
            by_cases hi : i < t.rs.length
            · obtain ⟨x, hx⟩ := getL_some hi
              have hw := wrI hi (by omega)
              have hm := strs_more (l := rkeys t) (i := i) (k := x.key) (by simp [rkeys, hx])
              rw [dropL_at hx, List.all_cons] at j2
              have hlt : ((rkeys t).take i).length ≤ i := by simp; omega
              rcases c1 : okStm x.tm x.ac with _ | _
              · have ef : t.rs.all okSn = false := by rw [j2]; simp [okSn, c1]
                rw [rightT_rs ef]
                simp [hx]
                refine ⟨fun _ => ?_, fun h => by omega⟩
                repeat' (first | intro _ | with_reducible refine And.intro ?_ ?_ | exact chkI (by kernel_rfl) | exact backI (by kernel_rfl) | (refine callA (by first | rfl | (simp; done) | (simp; rfl)) (c_rTxn ..) ?_ <;> try simp [hx, c1]) | (refine callB (by first | rfl | (simp; done) | (simp; rfl)) (c_rTxn ..) ?_ <;> try simp [hx, c1]) | (refine callA (by first | rfl | (simp; done) | (simp; rfl)) (c_rTxn ..) ?_ <;> try simp [hx, c1]) | (refine callB (by first | rfl | (simp; done) | (simp; rfl)) (c_rTxn ..) ?_ <;> try simp [hx, c1]) | (refine callA (by first | rfl | (simp; done) | (simp; rfl)) (c_rStm ..) ?_ <;> try simp [hx, c1]) | (refine callB (by first | rfl | (simp; done) | (simp; rfl)) (c_rStm ..) ?_ <;> try simp [hx, c1]) | (refine callA (by first | rfl | (simp; done) | (simp; rfl)) (c_rStm ..) ?_ <;> try simp [hx, c1]) | (refine callB (by first | rfl | (simp; done) | (simp; rfl)) (c_rStm ..) ?_ <;> try simp [hx, c1]) | (refine callA (by first | rfl | (simp; done) | (simp; rfl)) (c_rKeys ..) ?_ <;> try simp [hx, c1]) | (refine callB (by first | rfl | (simp; done) | (simp; rfl)) (c_rKeys ..) ?_ <;> try simp [hx, c1]) | (refine callA (by first | rfl | (simp; done) | (simp; rfl)) (c_rKeys ..) ?_ <;> try simp [hx, c1]) | (refine callB (by first | rfl | (simp; done) | (simp; rfl)) (c_rKeys ..) ?_ <;> try simp [hx, c1]) | fail)
                all_goals first | omega
              · by_cases c2 : 8 < (x.val.size : Int)
                · have c2' := eq_true c2
                  have ef : t.rs.all okSn = false := by
                    have : okSn x = false := by simp [okSn, c1]; omega
                    rw [j2, this]; rfl
                  rw [rightT_rs ef]
                  simp [hx]
                  refine ⟨fun _ => ?_, fun h => by omega⟩
                  repeat' (first | intro _ | with_reducible refine And.intro ?_ ?_ | exact chkI (by kernel_rfl) | exact backI (by kernel_rfl) | (refine callA (by first | rfl | (simp; done) | (simp; rfl)) (c_rTxn ..) ?_ <;> try simp [hx, c1, c2']) | (refine callB (by first | rfl | (simp; done) | (simp; rfl)) (c_rTxn ..) ?_ <;> try simp [hx, c1, c2']) | (refine callA (by first | rfl | (simp; done) | (simp; rfl)) (c_rTxn ..) ?_ <;> try simp [hx, c1, c2']) | (refine callB (by first | rfl | (simp; done) | (simp; rfl)) (c_rTxn ..) ?_ <;> try simp [hx, c1, c2']) | (refine callA (by first | rfl | (simp; done) | (simp; rfl)) (c_rStm ..) ?_ <;> try simp [hx, c1, c2']) | (refine callB (by first | rfl | (simp; done) | (simp; rfl)) (c_rStm ..) ?_ <;> try simp [hx, c1, c2']) | (refine callA (by first | rfl | (simp; done) | (simp; rfl)) (c_rStm ..) ?_ <;> try simp [hx, c1, c2']) | (refine callB (by first | rfl | (simp; done) | (simp; rfl)) (c_rStm ..) ?_ <;> try simp [hx, c1, c2']) | (refine callA (by first | rfl | (simp; done) | (simp; rfl)) (c_rKeys ..) ?_ <;> try simp [hx, c1, c2']) | (refine callB (by first | rfl | (simp; done) | (simp; rfl)) (c_rKeys ..) ?_ <;> try simp [hx, c1, c2']) | (refine callA (by first | rfl | (simp; done) | (simp; rfl)) (c_rKeys ..) ?_ <;> try simp [hx, c1, c2']) | (refine callB (by first | rfl | (simp; done) | (simp; rfl)) (c_rKeys ..) ?_ <;> try simp [hx, c1, c2']) | fail)
                  all_goals first | omega
                · have c2' := eq_false c2
                  have e : okSn x = true := by simp [okSn, c1]; omega
                  rw [e, Bool.true_and] at j2
                  simp [hx]
                  refine ⟨fun _ => ?_, fun h => by omega⟩
                  repeat' (first | intro _ | with_reducible refine And.intro ?_ ?_ | exact chkI (by kernel_rfl) | exact backI (by kernel_rfl) | (refine callA (by first | rfl | (simp; done) | (simp; rfl)) (c_rTxn ..) ?_ <;> try simp [hx, c1, c2']) | (refine callB (by first | rfl | (simp; done) | (simp; rfl)) (c_rTxn ..) ?_ <;> try simp [hx, c1, c2']) | (refine callA (by first | rfl | (simp; done) | (simp; rfl)) (c_rTxn ..) ?_ <;> try simp [hx, c1, c2']) | (refine callB (by first | rfl | (simp; done) | (simp; rfl)) (c_rTxn ..) ?_ <;> try simp [hx, c1, c2']) | (refine callA (by first | rfl | (simp; done) | (simp; rfl)) (c_rStm ..) ?_ <;> try simp [hx, c1, c2']) | (refine callB (by first | rfl | (simp; done) | (simp; rfl)) (c_rStm ..) ?_ <;> try simp [hx, c1, c2']) | (refine callA (by first | rfl | (simp; done) | (simp; rfl)) (c_rStm ..) ?_ <;> try simp [hx, c1, c2']) | (refine callB (by first | rfl | (simp; done) | (simp; rfl)) (c_rStm ..) ?_ <;> try simp [hx, c1, c2']) | (refine callA (by first | rfl | (simp; done) | (simp; rfl)) (c_rKeys ..) ?_ <;> try simp [hx, c1, c2']) | (refine callB (by first | rfl | (simp; done) | (simp; rfl)) (c_rKeys ..) ?_ <;> try simp [hx, c1, c2']) | (refine callA (by first | rfl | (simp; done) | (simp; rfl)) (c_rKeys ..) ?_ <;> try simp [hx, c1, c2']) | (refine callB (by first | rfl | (simp; done) | (simp; rfl)) (c_rKeys ..) ?_ <;> try simp [hx, c1, c2']) | fail)
                  all_goals first | omega | exact str_len (by assumption) | (refine Exists.intro (i + 1) (And.intro (by omega) (And.intro (And.intro (by omega) j2) (St.to_chk [(1, 4)] ?_))); rw [hm]; simp [hw]; done)
            · rw [List.drop_eq_nil_of_le (by omega), List.all_nil] at j2
              rw [show (rkeys t).take i = rkeys t from List.take_of_length_le (by omega)]
              simp [hi]
              refine aw_loopKM (α := {i : Nat // i ≤ t.ws.length ∧ t.ws.all okWr = (t.ws.drop i).all okWr}) [3, 59, 60, 75, 76, 77, 78, 79, 80] (fun i => [(61, i64 i.1), (4, .rf 2)]) (fun i => [(0, .box false 38 t.cs), (1, .row false 9 1 (strs (rkeys t))), (2, .row false 9 1 (strs ((wkeys t).take i.1)))]) 3 (fun i => t.ws.length - i.1) ⟨0, by simp⟩ ((St.to_own 4 9 1 rfl (by simp)).trans (St.to_chk [] (by simp [strs]))) ?_
              rintro ⟨k, k1, k2⟩
              dsimp only
              by_cases hk : k < t.ws.length
              · obtain ⟨x, hx⟩ := getL_some hk
                have hw := wrI hk (by omega)
                have hm := strs_more (l := wkeys t) (i := k) (k := x.key) (by simp [wkeys, hx])
                rw [dropL_at hx, List.all_cons] at k2
                have hlt : ((wkeys t).take k).length ≤ k := by simp; omega
                by_cases c2 : 8 < (x.val.size : Int)
                · have c2' := eq_true c2
                  have ef : t.ws.all okWr = false := by
                    have : okWr x = false := by simp [okWr]; omega
                    rw [k2, this]; rfl
                  rw [rightT_ws ef]
                  simp [hx, c2']
                  repeat' (first | intro _ | with_reducible refine And.intro ?_ ?_ | exact chkI (by kernel_rfl) | exact backI (by kernel_rfl) | (refine callA (by first | rfl | (simp; done) | (simp; rfl)) (c_rTxn ..) ?_ <;> try simp [hx, c2']) | (refine callB (by first | rfl | (simp; done) | (simp; rfl)) (c_rTxn ..) ?_ <;> try simp [hx, c2']) | (refine callA (by first | rfl | (simp; done) | (simp; rfl)) (c_rTxn ..) ?_ <;> try simp [hx, c2']) | (refine callB (by first | rfl | (simp; done) | (simp; rfl)) (c_rTxn ..) ?_ <;> try simp [hx, c2']) | (refine callA (by first | rfl | (simp; done) | (simp; rfl)) (c_rStm ..) ?_ <;> try simp [hx, c2']) | (refine callB (by first | rfl | (simp; done) | (simp; rfl)) (c_rStm ..) ?_ <;> try simp [hx, c2']) | (refine callA (by first | rfl | (simp; done) | (simp; rfl)) (c_rStm ..) ?_ <;> try simp [hx, c2']) | (refine callB (by first | rfl | (simp; done) | (simp; rfl)) (c_rStm ..) ?_ <;> try simp [hx, c2']) | (refine callA (by first | rfl | (simp; done) | (simp; rfl)) (c_rKeys ..) ?_ <;> try simp [hx, c2']) | (refine callB (by first | rfl | (simp; done) | (simp; rfl)) (c_rKeys ..) ?_ <;> try simp [hx, c2']) | (refine callA (by first | rfl | (simp; done) | (simp; rfl)) (c_rKeys ..) ?_ <;> try simp [hx, c2']) | (refine callB (by first | rfl | (simp; done) | (simp; rfl)) (c_rKeys ..) ?_ <;> try simp [hx, c2']) | fail)
                  all_goals first | omega | (exfalso; omega)
                · have c2' := eq_false c2
                  have e : okWr x = true := by simp [okWr]; omega
                  rw [e, Bool.true_and] at k2
                  simp [hx, c2']
                  repeat' (first | intro _ | with_reducible refine And.intro ?_ ?_ | exact chkI (by kernel_rfl) | exact backI (by kernel_rfl) | (refine callA (by first | rfl | (simp; done) | (simp; rfl)) (c_rTxn ..) ?_ <;> try simp [hx, c2']) | (refine callB (by first | rfl | (simp; done) | (simp; rfl)) (c_rTxn ..) ?_ <;> try simp [hx, c2']) | (refine callA (by first | rfl | (simp; done) | (simp; rfl)) (c_rTxn ..) ?_ <;> try simp [hx, c2']) | (refine callB (by first | rfl | (simp; done) | (simp; rfl)) (c_rTxn ..) ?_ <;> try simp [hx, c2']) | (refine callA (by first | rfl | (simp; done) | (simp; rfl)) (c_rStm ..) ?_ <;> try simp [hx, c2']) | (refine callB (by first | rfl | (simp; done) | (simp; rfl)) (c_rStm ..) ?_ <;> try simp [hx, c2']) | (refine callA (by first | rfl | (simp; done) | (simp; rfl)) (c_rStm ..) ?_ <;> try simp [hx, c2']) | (refine callB (by first | rfl | (simp; done) | (simp; rfl)) (c_rStm ..) ?_ <;> try simp [hx, c2']) | (refine callA (by first | rfl | (simp; done) | (simp; rfl)) (c_rKeys ..) ?_ <;> try simp [hx, c2']) | (refine callB (by first | rfl | (simp; done) | (simp; rfl)) (c_rKeys ..) ?_ <;> try simp [hx, c2']) | (refine callA (by first | rfl | (simp; done) | (simp; rfl)) (c_rKeys ..) ?_ <;> try simp [hx, c2']) | (refine callB (by first | rfl | (simp; done) | (simp; rfl)) (c_rKeys ..) ?_ <;> try simp [hx, c2']) | fail)
                  all_goals first | omega | (exfalso; omega) | exact str_len (by assumption) | (refine Exists.intro (k + 1) (And.intro (by omega) (And.intro (And.intro (by omega) k2) (St.to_chk [(2, 5)] ?_))); rw [hm]; simp [hw]; done)
              · rw [List.drop_eq_nil_of_le (by omega), List.all_nil] at k2
                rw [show (wkeys t).take k = wkeys t from List.take_of_length_le (by omega), rightT_all hh j2 k2]
                simp [hk]
                rcases q1 : okKeys (rkeys t) with _ | _
                all_goals
                  repeat' (first | intro _ | with_reducible refine And.intro ?_ ?_ | exact chkI (by kernel_rfl) | exact backI (by kernel_rfl) | (refine callA (by first | rfl | (simp; done) | (simp; rfl)) (c_rTxn ..) ?_ <;> try simp [q1]) | (refine callB (by first | rfl | (simp; done) | (simp; rfl)) (c_rTxn ..) ?_ <;> try simp [q1]) | (refine callA (by first | rfl | (simp; done) | (simp; rfl)) (c_rTxn ..) ?_ <;> try simp [q1]) | (refine callB (by first | rfl | (simp; done) | (simp; rfl)) (c_rTxn ..) ?_ <;> try simp [q1]) | (refine callA (by first | rfl | (simp; done) | (simp; rfl)) (c_rStm ..) ?_ <;> try simp [q1]) | (refine callB (by first | rfl | (simp; done) | (simp; rfl)) (c_rStm ..) ?_ <;> try simp [q1]) | (refine callA (by first | rfl | (simp; done) | (simp; rfl)) (c_rStm ..) ?_ <;> try simp [q1]) | (refine callB (by first | rfl | (simp; done) | (simp; rfl)) (c_rStm ..) ?_ <;> try simp [q1]) | (refine callA (by first | rfl | (simp; done) | (simp; rfl)) (c_rKeys ..) ?_ <;> try simp [q1]) | (refine callB (by first | rfl | (simp; done) | (simp; rfl)) (c_rKeys ..) ?_ <;> try simp [q1]) | (refine callA (by first | rfl | (simp; done) | (simp; rfl)) (c_rKeys ..) ?_ <;> try simp [q1]) | (refine callB (by first | rfl | (simp; done) | (simp; rfl)) (c_rKeys ..) ?_ <;> try simp [q1]) | fail)
                  all_goals first | omega
end Go.Proofs.Ytnldlkkcdgdkgaa.AX
