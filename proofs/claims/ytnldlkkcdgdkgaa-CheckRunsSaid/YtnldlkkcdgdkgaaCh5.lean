/- Committed trips, by their times: the program's Sorted. -/
import Derived.Test.YtnldlkkcdgdkgaaCh4
namespace Go.Proofs.Ytnldlkkcdgdkgaa.AX
open Go Go.RowKit
set_option linter.unusedSimpArgs false
set_option linter.unusedVariables false
set_option maxRecDepth 100000
set_option maxHeartbeats 4000000
theorem sn_len {l : List Sn} {x : List V} (h : x ∈ l.map Sn.cs) : x.length = 4 := by
  obtain ⟨m, -, rfl⟩ := List.mem_map.1 h
  rfl
theorem wr_len {l : List Wr} {x : List V} (h : x ∈ l.map Wr.cs) : x.length = 2 := by
  obtain ⟨m, -, rfl⟩ := List.mem_map.1 h
  rfl
theorem c_cloneS (l : List Sn) (hl : l.length ≤ 100 := by assumption) : Pure Try.prog 29 [.sl (l.map Sn.cs)] (.sl (l.map Sn.cs)) := by
  refine pureQ_of_aw dOk Try.func29 rfl rfl rfl rfl rfl ?_
  simp [Try.f29]
  repeat' (first | intro _ | with_reducible refine And.intro ?_ ?_ | exact chkI (by kernel_rfl) | exact backI (by kernel_rfl) | fail)
  all_goals first | omega | exact sn_len (by assumption) | (subst_vars; simp; done) | (rename_i h; subst h; simp; done)
theorem c_cloneW (l : List Wr) (hl : l.length ≤ 100 := by assumption) : Pure Try.prog 30 [.sl (l.map Wr.cs)] (.sl (l.map Wr.cs)) := by
  refine pureQ_of_aw dOk Try.func30 rfl rfl rfl rfl rfl ?_
  simp [Try.f30]
  repeat' (first | intro _ | with_reducible refine And.intro ?_ ?_ | exact chkI (by kernel_rfl) | exact backI (by kernel_rfl) | fail)
  all_goals first | omega | exact wr_len (by assumption) | (subst_vars; simp; done) | (rename_i h; subst h; simp; done)
theorem c_stable (l : List Trp) (hl : l.length ≤ 19 := by assumption) : Fn Try.prog 42 [.rf 0, i64 (l.length : Int), .fn 32 []] [(0, .row false 38 7 (l.map Trp.cs))] 1 (.tup []) [(0, .row false 38 7 ((srtR l).reverse.map Trp.cs))] 1 := by
  have hl2 : l.length ≤ 100 := by omega
  have h20 := eq_false (show ¬ (20 : Int) ≤ (l.length : Int) by omega)
  have h20' := eq_false (show ¬ (20 : Int) < (l.length : Int) by omega)
  refine fn_of_aw dOk Try.func42 rfl rfl rfl rfl rfl (by simp) rfl (by simp) ?_
  simp [Try.f42]
  refine aw_rounds 1 ?_
  simp [rounds, h20]
  repeat' (first | intro _ | with_reducible refine And.intro ?_ ?_ | exact chkI (by kernel_rfl) | exact backI (by kernel_rfl) | (refine callH (by first | ((refine ⟨?_, ?_, ?_, ?_⟩ <;> repeat' (first | exact rfl | exact Or.inl rfl | exact Or.inr rfl | exact trivial | with_reducible constructor | refine ⟨?_, ?_⟩ | (simp; done))); done) | fail) (c_insT ..) ?_ <;> try simp [h20']) | (refine callHD (by first | ((refine ⟨?_, ?_, ?_, ?_⟩ <;> repeat' (first | exact rfl | exact Or.inl rfl | exact Or.inr rfl | exact trivial | with_reducible constructor | refine ⟨?_, ?_⟩ | (simp; done))); done) | fail) (c_insT ..) rfl ?_ <;> try simp [h20']) | fail)
  refine aw_rounds 1 ?_
  simp [rounds, h20']
  exact St.to_chk [] (by simp)
theorem c_sortT (l : List Trp) (hl : l.length ≤ 19 := by assumption) : Fn Try.prog 31 [.rf 0, .fn 32 []] [(0, .row false 38 7 (l.map Trp.cs))] 1 (.tup []) [(0, .row false 38 7 ((srtR l).reverse.map Trp.cs))] 1 := by
  refine fn_of_aw dOk Try.func31 rfl rfl rfl rfl rfl (by simp) rfl (by simp) ?_
  simp [Try.f31]
  repeat' (first | intro _ | with_reducible refine And.intro ?_ ?_ | exact chkI (by kernel_rfl) | exact backI (by kernel_rfl) | (refine callH (by first | ((refine ⟨?_, ?_, ?_, ?_⟩ <;> repeat' (first | exact rfl | exact Or.inl rfl | exact Or.inr rfl | exact trivial | with_reducible constructor | refine ⟨?_, ?_⟩ | (simp; done))); done) | fail) (c_stable ..) ?_ <;> try simp) | (refine callHD (by first | ((refine ⟨?_, ?_, ?_, ?_⟩ <;> repeat' (first | exact rfl | exact Or.inl rfl | exact Or.inr rfl | exact trivial | with_reducible constructor | refine ⟨?_, ?_⟩ | (simp; done))); done) | fail) (c_stable ..) rfl ?_ <;> try simp) | fail)
  exact St.to_chk [] (by simp)
def isCm (t : Trp) : Bool := decide (t.oc = 1)
def sortedS (l : List Trp) : List Trp := (srtR (l.filter isCm)).reverse
theorem filter_next {l : List Trp} {i : Nat} {x : Trp} (h : l[i]? = some x) : (l.take (i + 1)).filter isCm = (l.take i).filter isCm ++ (if isCm x = true then [x] else []) := by
  rw [List.take_add_one, h, List.filter_append]
  by_cases hc : isCm x = true <;> simp [hc]
structure Trp.Small (t : Trp) : Prop where
  rl : t.rs.length ≤ 100
  wl : t.ws.length ≤ 100
  rk : ∀ r ∈ t.rs, r.key.size ≤ 100
  wk : ∀ w ∈ t.ws, w.key.size ≤ 100
theorem c_sorted (l : List Trp) (hl : l.length ≤ 19 := by assumption) (hs : ∀ t ∈ l, t.Small := by assumption) : Pure Try.prog 16 [.sl (l.map Trp.cs)] (.sl ((sortedS l).map Trp.cs)) := by
  refine pureQ_of_aw dOk Try.func16 rfl rfl rfl rfl rfl ?_
  simp [Try.f16]
  refine aw_loopKM (α := {i : Nat // i ≤ l.length}) [2, 6, 7, 28, 30] (fun i => [(8, i64 i.1), (3, .rf 0)]) (fun i => [(0, .row false 38 7 (((l.take i.1).filter isCm).map Trp.cs))]) 1 (fun i => l.length - i.1) ⟨0, by simp⟩ ((St.to_own 3 38 7 rfl (by simp)).trans (St.to_chk [] (by simp))) ?_
  rintro ⟨i, j1⟩
  dsimp only
  have hfl := List.length_filter_le isCm (l.take i)
  have hfl2 : (l.take i).length ≤ i := by simp; omega
  by_cases hi : i < l.length
  · obtain ⟨x, hx⟩ := getL_some hi
    have hw := wrI hi (by omega)
    have hn := filter_next hx
    have hsm := hs x (List.mem_of_getElem? hx)
    have r1 := hsm.rl
    have r2 := hsm.wl
    rcases hc : isCm x with _ | _
    · have hc' := eq_false (of_decide_eq_false hc)
      rw [hc] at hn
      simp at hn
      simp [hx, hc']
      repeat' (first | intro _ | with_reducible refine And.intro ?_ ?_ | exact chkI (by kernel_rfl) | exact backI (by kernel_rfl) | (refine callA (by first | rfl | (simp; done) | (simp; rfl)) (c_cmpT ..) ?_ <;> try simp [hx, hc']) | (refine callB (by first | rfl | (simp; done) | (simp; rfl)) (c_cmpT ..) ?_ <;> try simp [hx, hc']) | (refine callA (by first | rfl | (simp; done) | (simp; rfl)) (c_cloneS ..) ?_ <;> try simp [hx, hc']) | (refine callB (by first | rfl | (simp; done) | (simp; rfl)) (c_cloneS ..) ?_ <;> try simp [hx, hc']) | (refine callA (by first | rfl | (simp; done) | (simp; rfl)) (c_cloneW ..) ?_ <;> try simp [hx, hc']) | (refine callB (by first | rfl | (simp; done) | (simp; rfl)) (c_cloneW ..) ?_ <;> try simp [hx, hc']) | (refine callH (by first | ((refine ⟨?_, ?_, ?_, ?_⟩ <;> repeat' (first | exact rfl | exact Or.inl rfl | exact Or.inr rfl | exact trivial | with_reducible constructor | refine ⟨?_, ?_⟩ | (simp; done))); done) | fail) (c_sortT ..) ?_ <;> try simp [hx, hc']) | (refine callHD (by first | ((refine ⟨?_, ?_, ?_, ?_⟩ <;> repeat' (first | exact rfl | exact Or.inl rfl | exact Or.inr rfl | exact trivial | with_reducible constructor | refine ⟨?_, ?_⟩ | (simp; done))); done) | fail) (c_sortT ..) rfl ?_ <;> try simp [hx, hc']) | fail)
      all_goals first | omega | (refine Exists.intro (i + 1) (And.intro (by omega) (And.intro (by omega) (St.to_chk [] ?_))); rw [hn]; simp [hw]; done)
    · have hc' := eq_true (of_decide_eq_true hc)
      have hm : ((l.take (i + 1)).filter isCm).map Trp.cs = ((l.take i).filter isCm).map Trp.cs ++ [x.cs] := by rw [hn, hc]; simp
      simp [hx, hc']
      refine ⟨fun _ => ?_, fun h => by omega⟩
      repeat' (first | intro _ | with_reducible refine And.intro ?_ ?_ | exact chkI (by kernel_rfl) | exact backI (by kernel_rfl) | (refine callA (by first | rfl | (simp; done) | (simp; rfl)) (c_cmpT ..) ?_ <;> try simp [hx, hc']) | (refine callB (by first | rfl | (simp; done) | (simp; rfl)) (c_cmpT ..) ?_ <;> try simp [hx, hc']) | (refine callA (by first | rfl | (simp; done) | (simp; rfl)) (c_cloneS ..) ?_ <;> try simp [hx, hc']) | (refine callB (by first | rfl | (simp; done) | (simp; rfl)) (c_cloneS ..) ?_ <;> try simp [hx, hc']) | (refine callA (by first | rfl | (simp; done) | (simp; rfl)) (c_cloneW ..) ?_ <;> try simp [hx, hc']) | (refine callB (by first | rfl | (simp; done) | (simp; rfl)) (c_cloneW ..) ?_ <;> try simp [hx, hc']) | (refine callH (by first | ((refine ⟨?_, ?_, ?_, ?_⟩ <;> repeat' (first | exact rfl | exact Or.inl rfl | exact Or.inr rfl | exact trivial | with_reducible constructor | refine ⟨?_, ?_⟩ | (simp; done))); done) | fail) (c_sortT ..) ?_ <;> try simp [hx, hc']) | (refine callHD (by first | ((refine ⟨?_, ?_, ?_, ?_⟩ <;> repeat' (first | exact rfl | exact Or.inl rfl | exact Or.inr rfl | exact trivial | with_reducible constructor | refine ⟨?_, ?_⟩ | (simp; done))); done) | fail) (c_sortT ..) rfl ?_ <;> try simp [hx, hc']) | fail)
      all_goals first | omega | exact sn_len (by assumption) | exact wr_len (by assumption) | exact trp_len (by assumption) | (refine Exists.intro (i + 1) (And.intro (by omega) (And.intro (by omega) (St.to_chk [(0, 13)] ?_))); rw [hm]; simp [hw]; done)
  · rw [List.take_of_length_le (by omega)] at *
    generalize hL : l.filter isCm = L at *
    have hLl : L.length ≤ 19 := by rw [← hL]; have := List.length_filter_le isCm l; omega
    have e : sortedS l = (srtR L).reverse := by rw [sortedS, hL]
    rw [e]
    simp [hi]
    repeat' (first | intro _ | with_reducible refine And.intro ?_ ?_ | exact chkI (by kernel_rfl) | exact backI (by kernel_rfl) | (refine callA (by first | rfl | (simp; done) | (simp; rfl)) (c_cmpT ..) ?_ <;> try simp) | (refine callB (by first | rfl | (simp; done) | (simp; rfl)) (c_cmpT ..) ?_ <;> try simp) | (refine callA (by first | rfl | (simp; done) | (simp; rfl)) (c_cloneS ..) ?_ <;> try simp) | (refine callB (by first | rfl | (simp; done) | (simp; rfl)) (c_cloneS ..) ?_ <;> try simp) | (refine callA (by first | rfl | (simp; done) | (simp; rfl)) (c_cloneW ..) ?_ <;> try simp) | (refine callB (by first | rfl | (simp; done) | (simp; rfl)) (c_cloneW ..) ?_ <;> try simp) | (refine callH (by first | ((refine ⟨?_, ?_, ?_, ?_⟩ <;> repeat' (first | exact rfl | exact Or.inl rfl | exact Or.inr rfl | exact trivial | with_reducible constructor | refine ⟨?_, ?_⟩ | (simp; done))); done) | fail) (c_sortT ..) ?_ <;> try simp) | (refine callHD (by first | ((refine ⟨?_, ?_, ?_, ?_⟩ <;> repeat' (first | exact rfl | exact Or.inl rfl | exact Or.inr rfl | exact trivial | with_reducible constructor | refine ⟨?_, ?_⟩ | (simp; done))); done) | fail) (c_sortT ..) rfl ?_ <;> try simp) | fail)
    all_goals first | omega
end Go.Proofs.Ytnldlkkcdgdkgaa.AX
