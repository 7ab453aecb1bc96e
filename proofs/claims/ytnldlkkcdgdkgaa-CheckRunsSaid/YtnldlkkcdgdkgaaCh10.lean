/- What is there for a key at a time, as the document has it. -/
import Derived.Test.YtnldlkkcdgdkgaaCh6
namespace Go.Proofs.Ytnldlkkcdgdkgaa.AX
open Go Go.RowKit
set_option linter.unusedSimpArgs false
set_option linter.unusedVariables false
set_option maxRecDepth 100000
set_option maxHeartbeats 4000000
def takeR (key : ByteArray) (t : Trp) (s : Bool × Acc) (w : Wr) : Bool × Acc := if w.key = key then (true, ((t.tm, t.ac), w.val)) else s
def skipR (tm ac : Int) (s : Bool × Acc) (t : Trp) : Prop := ¬ t.oc = 1 ∨ ¬ ord t.tm t.ac tm ac < 0 ∨ (s.1 = true ∧ ord t.tm t.ac s.2.1.1 s.2.1.2 < 0)
instance (tm ac : Int) (s : Bool × Acc) (t : Trp) : Decidable (skipR tm ac s t) := by unfold skipR; infer_instance
def stepR (key : ByteArray) (tm ac : Int) (s : Bool × Acc) (t : Trp) : Bool × Acc := if skipR tm ac s t then s else t.ws.foldl (takeR key t) s
def thereR (l : List Trp) (key : ByteArray) (tm ac : Int) : Acc := (l.foldl (stepR key tm ac) (false, ((0, 0), ⟨#[]⟩))).2
theorem c_there' (l : List Trp) (key : ByteArray) (tm ac : Int) (hl : l.length ≤ 19 := by assumption) (hs : ∀ t ∈ l, t.Small := by assumption) : Pure Try.prog 22 [.sl (l.map Trp.cs), .str key, .agg [i64 tm, i64 ac]] (.tup [.agg [i64 (thereR l key tm ac).1.1, i64 (thereR l key tm ac).1.2], .str (thereR l key tm ac).2]) := by
  refine pureQ_of_aw dOk Try.func22 rfl rfl rfl rfl rfl ?_
  simp [Try.f22]
  rw [thereR]
  refine aw_loopKM (α := {x : Nat × (Bool × Acc) // x.1 ≤ l.length ∧ (l.drop x.1).foldl (stepR key tm ac) x.2 = l.foldl (stepR key tm ac) (false, ((0, 0), ⟨#[]⟩))}) [0, 1, 5, 6, 7, 8, 67, 68] (fun x => [(11, i64 x.1.1), (10, .bool x.1.2.1), (9, .str x.1.2.2.2)]) (fun x => [(0, .box false 34 [i64 tm, i64 ac]), (1, .box false 34 [i64 0, i64 0]), (2, .box false 34 [i64 x.1.2.2.1.1, i64 x.1.2.2.1.2])]) 3 (fun x => l.length - x.1.1) ⟨(0, (false, ((0, 0), ⟨#[]⟩))), by simp, rfl⟩ (St.to_chk [] (by simp)) ?_
  rintro ⟨⟨i, b, s, v⟩, j1, j2⟩
  dsimp only at j1 j2 ⊢
  by_cases hi : i < l.length
  · obtain ⟨t, ht⟩ := getL_some hi
    have hw := wrI hi (by omega)
    have hwl := (hs t (List.mem_of_getElem? ht)).wl
    rw [dropL_at ht, List.foldl_cons] at j2
    by_cases h1 : t.oc = 1
    · have h1' := eq_true h1
      by_cases h2 : ord t.tm t.ac tm ac < 0
      · have h2' := eq_true h2
        by_cases h3 : b = true ∧ ord t.tm t.ac s.1 s.2 < 0
        · have h3' := eq_true h3.2
          obtain ⟨rfl, h4⟩ := h3
          have e : stepR key tm ac (true, s, v) t = (true, s, v) := if_pos (.inr (.inr ⟨rfl, h4⟩))
          rw [e] at j2
          simp [ht, h1', -Bool.exists_bool]
          refine ⟨fun _ => ?_, fun h => by omega⟩
          repeat' (first | intro _ | with_reducible refine And.intro ?_ ?_ | exact chkI (by kernel_rfl) | exact backI (by kernel_rfl) | (refine callA (by first | rfl | (simp; done) | (simp; rfl)) (c_before' ..) ?_ <;> try simp [ht, h1', h2', h3', -Bool.exists_bool]) | (refine callB (by first | rfl | (simp; done) | (simp; rfl)) (c_before' ..) ?_ <;> try simp [ht, h1', h2', h3', -Bool.exists_bool]) | (refine callA (by first | rfl | (simp; done) | (simp; rfl)) (c_before' ..) ?_ <;> try simp [ht, h1', h2', h3', -Bool.exists_bool]) | (refine callB (by first | rfl | (simp; done) | (simp; rfl)) (c_before' ..) ?_ <;> try simp [ht, h1', h2', h3', -Bool.exists_bool]) | fail)
          all_goals first | omega | (refine Exists.intro (i + 1) (And.intro (by omega) (Exists.intro true (Exists.intro s.1 (Exists.intro s.2 (Exists.intro v (And.intro (And.intro (by omega) j2) (St.to_chk [] ?_))))))); simp [hw]; done)
        · have e : stepR key tm ac (b, s, v) t = t.ws.foldl (takeR key t) (b, s, v) := if_neg (by
            rintro (h | h | h)
            · exact h h1
            · exact h h2
            · exact h3 h)
          rw [e] at j2
          simp [ht, h1', -Bool.exists_bool]
          refine ⟨fun _ => ?_, fun h => by omega⟩
          have h3f : b = true → (ord t.tm t.ac s.1 s.2 < 0) = False := fun hb => eq_false fun h => h3 ⟨hb, h⟩
          rcases b with _ | _
          · have h3' : True := trivial
            repeat' (first | intro _ | with_reducible refine And.intro ?_ ?_ | exact chkI (by kernel_rfl) | exact backI (by kernel_rfl) | (refine callA (by first | rfl | (simp; done) | (simp; rfl)) (c_before' ..) ?_ <;> try simp [ht, h1', h2', -Bool.exists_bool]) | (refine callB (by first | rfl | (simp; done) | (simp; rfl)) (c_before' ..) ?_ <;> try simp [ht, h1', h2', -Bool.exists_bool]) | (refine callA (by first | rfl | (simp; done) | (simp; rfl)) (c_before' ..) ?_ <;> try simp [ht, h1', h2', -Bool.exists_bool]) | (refine callB (by first | rfl | (simp; done) | (simp; rfl)) (c_before' ..) ?_ <;> try simp [ht, h1', h2', -Bool.exists_bool]) | fail)
            refine aw_loopKM (α := {x : Nat × (Bool × Acc) // x.1 ≤ t.ws.length ∧ (t.ws.drop x.1).foldl (takeR key t) x.2 = t.ws.foldl (takeR key t) (false, s, v)}) [0, 1, 5, 6, 7, 8, 11, 12, 15, 16, 17, 18, 19, 20, 21, 22, 23, 24, 25, 26, 27, 28, 29, 30, 31, 32, 33, 34, 35, 36, 37, 38, 39, 40, 41, 42, 43, 67, 68] (fun x => [(13, i64 x.1.1), (10, .bool x.1.2.1), (9, .str x.1.2.2.2)]) (fun x => [(0, .box false 34 [i64 tm, i64 ac]), (1, .box false 34 [i64 0, i64 0]), (2, .box false 34 [i64 x.1.2.2.1.1, i64 x.1.2.2.1.2]), (3, .box false 43 t.cs)]) 4 (fun x => t.ws.length - x.1.1) ⟨(0, (false, s, v)), by simp, rfl⟩ (St.to_chk [] (by simp)) ?_
            rintro ⟨⟨k, c, q, u⟩, k1, k2⟩
            dsimp only at k1 k2 ⊢
            by_cases hk : k < t.ws.length
            · obtain ⟨w, hw0⟩ := getL_some hk
              have hwk := wrI hk (by omega)
              rw [dropL_at hw0, List.foldl_cons] at k2
              by_cases hq : w.key = key
              · have hq' := eq_true hq
                have e2 : takeR key t (c, q, u) w = (true, ((t.tm, t.ac), w.val)) := if_pos hq
                rw [e2] at k2
                simp [hw0, hq', -Bool.exists_bool]
                refine ⟨fun _ => ?_, fun h => by omega⟩
                exact Exists.intro (k + 1) (And.intro (by omega) (Exists.intro true (Exists.intro t.tm (Exists.intro t.ac (Exists.intro w.val (And.intro (And.intro (by omega) k2) (St.to_chk [] (by simp [hwk]))))))))
              · have hq' := eq_false hq
                have e2 : takeR key t (c, q, u) w = (c, q, u) := if_neg hq
                rw [e2] at k2
                simp [hw0, hq', -Bool.exists_bool]
                refine ⟨fun _ => ?_, fun h => by omega⟩
                exact Exists.intro (k + 1) (And.intro (by omega) (Exists.intro c (Exists.intro q.1 (Exists.intro q.2 (Exists.intro u (And.intro (And.intro (by omega) k2) (St.to_chk [] (by simp [hwk]))))))))
            · rw [List.drop_eq_nil_of_le (by omega), List.foldl_nil] at k2
              rw [← k2] at j2
              simp [hk, -Bool.exists_bool]
              exact Exists.intro (i + 1) (And.intro (by omega) (Exists.intro c (Exists.intro q.1 (Exists.intro q.2 (Exists.intro u (And.intro (And.intro (by omega) j2) (St.to_chk [] (by simp [hw]))))))))
          · have h3' := h3f rfl
            repeat' (first | intro _ | with_reducible refine And.intro ?_ ?_ | exact chkI (by kernel_rfl) | exact backI (by kernel_rfl) | (refine callA (by first | rfl | (simp; done) | (simp; rfl)) (c_before' ..) ?_ <;> try simp [ht, h1', h2', h3', -Bool.exists_bool]) | (refine callB (by first | rfl | (simp; done) | (simp; rfl)) (c_before' ..) ?_ <;> try simp [ht, h1', h2', h3', -Bool.exists_bool]) | (refine callA (by first | rfl | (simp; done) | (simp; rfl)) (c_before' ..) ?_ <;> try simp [ht, h1', h2', h3', -Bool.exists_bool]) | (refine callB (by first | rfl | (simp; done) | (simp; rfl)) (c_before' ..) ?_ <;> try simp [ht, h1', h2', h3', -Bool.exists_bool]) | fail)
            refine aw_loopKM (α := {x : Nat × (Bool × Acc) // x.1 ≤ t.ws.length ∧ (t.ws.drop x.1).foldl (takeR key t) x.2 = t.ws.foldl (takeR key t) (true, s, v)}) [0, 1, 5, 6, 7, 8, 11, 12, 15, 16, 17, 18, 19, 20, 21, 22, 23, 24, 25, 26, 27, 28, 29, 30, 31, 32, 33, 34, 35, 36, 37, 38, 39, 40, 41, 42, 43, 67, 68] (fun x => [(13, i64 x.1.1), (10, .bool x.1.2.1), (9, .str x.1.2.2.2)]) (fun x => [(0, .box false 34 [i64 tm, i64 ac]), (1, .box false 34 [i64 0, i64 0]), (2, .box false 34 [i64 x.1.2.2.1.1, i64 x.1.2.2.1.2]), (3, .box false 43 t.cs)]) 4 (fun x => t.ws.length - x.1.1) ⟨(0, (true, s, v)), by simp, rfl⟩ (St.to_chk [] (by simp)) ?_
            rintro ⟨⟨k, c, q, u⟩, k1, k2⟩
            dsimp only at k1 k2 ⊢
            by_cases hk : k < t.ws.length
            · obtain ⟨w, hw0⟩ := getL_some hk
              have hwk := wrI hk (by omega)
              rw [dropL_at hw0, List.foldl_cons] at k2
              by_cases hq : w.key = key
              · have hq' := eq_true hq
                have e2 : takeR key t (c, q, u) w = (true, ((t.tm, t.ac), w.val)) := if_pos hq
                rw [e2] at k2
                simp [hw0, hq', -Bool.exists_bool]
                refine ⟨fun _ => ?_, fun h => by omega⟩
                exact Exists.intro (k + 1) (And.intro (by omega) (Exists.intro true (Exists.intro t.tm (Exists.intro t.ac (Exists.intro w.val (And.intro (And.intro (by omega) k2) (St.to_chk [] (by simp [hwk]))))))))
              · have hq' := eq_false hq
                have e2 : takeR key t (c, q, u) w = (c, q, u) := if_neg hq
                rw [e2] at k2
                simp [hw0, hq', -Bool.exists_bool]
                refine ⟨fun _ => ?_, fun h => by omega⟩
                exact Exists.intro (k + 1) (And.intro (by omega) (Exists.intro c (Exists.intro q.1 (Exists.intro q.2 (Exists.intro u (And.intro (And.intro (by omega) k2) (St.to_chk [] (by simp [hwk]))))))))
            · rw [List.drop_eq_nil_of_le (by omega), List.foldl_nil] at k2
              rw [← k2] at j2
              simp [hk, -Bool.exists_bool]
              exact Exists.intro (i + 1) (And.intro (by omega) (Exists.intro c (Exists.intro q.1 (Exists.intro q.2 (Exists.intro u (And.intro (And.intro (by omega) j2) (St.to_chk [] (by simp [hw]))))))))
      · have h2' := eq_false h2
        have e : stepR key tm ac (b, s, v) t = (b, s, v) := if_pos (.inr (.inl h2))
        rw [e] at j2
        simp [ht, h1', -Bool.exists_bool]
        refine ⟨fun _ => ?_, fun h => by omega⟩
        repeat' (first | intro _ | with_reducible refine And.intro ?_ ?_ | exact chkI (by kernel_rfl) | exact backI (by kernel_rfl) | (refine callA (by first | rfl | (simp; done) | (simp; rfl)) (c_before' ..) ?_ <;> try simp [ht, h1', h2', -Bool.exists_bool]) | (refine callB (by first | rfl | (simp; done) | (simp; rfl)) (c_before' ..) ?_ <;> try simp [ht, h1', h2', -Bool.exists_bool]) | (refine callA (by first | rfl | (simp; done) | (simp; rfl)) (c_before' ..) ?_ <;> try simp [ht, h1', h2', -Bool.exists_bool]) | (refine callB (by first | rfl | (simp; done) | (simp; rfl)) (c_before' ..) ?_ <;> try simp [ht, h1', h2', -Bool.exists_bool]) | fail)
        all_goals first | omega | (refine Exists.intro (i + 1) (And.intro (by omega) (Exists.intro b (Exists.intro s.1 (Exists.intro s.2 (Exists.intro v (And.intro (And.intro (by omega) j2) (St.to_chk [] ?_))))))); simp [hw]; done)
    · have h1' := eq_false h1
      have e : stepR key tm ac (b, s, v) t = (b, s, v) := if_pos (.inl h1)
      rw [e] at j2
      simp [ht, h1', -Bool.exists_bool]
      refine ⟨fun _ => ?_, fun h => by omega⟩
      repeat' (first | intro _ | with_reducible refine And.intro ?_ ?_ | exact chkI (by kernel_rfl) | exact backI (by kernel_rfl) | (refine callA (by first | rfl | (simp; done) | (simp; rfl)) (c_before' ..) ?_ <;> try simp [ht, h1', -Bool.exists_bool]) | (refine callB (by first | rfl | (simp; done) | (simp; rfl)) (c_before' ..) ?_ <;> try simp [ht, h1', -Bool.exists_bool]) | (refine callA (by first | rfl | (simp; done) | (simp; rfl)) (c_before' ..) ?_ <;> try simp [ht, h1', -Bool.exists_bool]) | (refine callB (by first | rfl | (simp; done) | (simp; rfl)) (c_before' ..) ?_ <;> try simp [ht, h1', -Bool.exists_bool]) | fail)
      all_goals first | omega | (refine Exists.intro (i + 1) (And.intro (by omega) (Exists.intro b (Exists.intro s.1 (Exists.intro s.2 (Exists.intro v (And.intro (And.intro (by omega) j2) (St.to_chk [] ?_))))))); simp [hw]; done)
  · rw [List.drop_eq_nil_of_le (by omega), List.foldl_nil] at j2
    rw [← j2]
    simp [hi, -Bool.exists_bool]
    repeat' (first | intro _ | with_reducible refine And.intro ?_ ?_ | exact chkI (by kernel_rfl) | exact backI (by kernel_rfl) | (refine callA (by first | rfl | (simp; done) | (simp; rfl)) (c_before' ..) ?_ <;> try simp) | (refine callB (by first | rfl | (simp; done) | (simp; rfl)) (c_before' ..) ?_ <;> try simp) | (refine callA (by first | rfl | (simp; done) | (simp; rfl)) (c_before' ..) ?_ <;> try simp) | (refine callB (by first | rfl | (simp; done) | (simp; rfl)) (c_before' ..) ?_ <;> try simp) | fail)
    all_goals first | omega
end Go.Proofs.Ytnldlkkcdgdkgaa.AX
