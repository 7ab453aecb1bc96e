/- What is there for a key at a time. -/
import Derived.Test.YtnldlkkcdgdkgaaCh5
namespace Go.Proofs.Ytnldlkkcdgdkgaa.AX
open Go Go.RowKit
set_option linter.unusedSimpArgs false
set_option linter.unusedVariables false
set_option maxRecDepth 100000
set_option maxHeartbeats 4000000
abbrev Acc := (Int × Int) × ByteArray
def takeF (key : ByteArray) (t : Trp) (a : Acc) (w : Wr) : Acc := if w.key = key then ((t.tm, t.ac), w.val) else a
def takeS (key : ByteArray) (t : Trp) (a : Acc) : Acc := t.ws.foldl (takeF key t) a
def thereF (key : ByteArray) (tm ac : Int) (a : Acc) (t : Trp) : Acc := if ord t.tm t.ac tm ac < 0 then takeS key t a else a
def thereS (l : List Trp) (key : ByteArray) (tm ac : Int) : Acc := (sortedS l).foldl (thereF key tm ac) ((0, 0), ⟨#[]⟩)
@[reducible, simp] def accM (key : ByteArray) (a : Acc) (k s v : Nat) : List (Nat × AO) := [(k, .box false 9 [.str key]), (s, .box false 34 [i64 a.1.1, i64 a.1.2]), (v, .box false 9 [.str a.2])]
theorem c_take (t : Trp) (key : ByteArray) (a : Acc) (hl : t.ws.length ≤ 100 := by assumption) : Fn Try.prog 35 [.agg t.cs, .ptr 0 0, .ptr 1 0, .ptr 2 0] (accM key a 0 1 2) 3 (.tup []) (accM key (takeS key t a) 0 1 2) 3 := by
  unfold accM
  refine fn_of_aw dOk Try.func35 rfl rfl rfl rfl rfl (by simp) rfl (by simp) ?_
  simp [Try.f35]
  refine aw_loopKM (α := {x : Nat × Acc // x.1 ≤ t.ws.length ∧ (t.ws.drop x.1).foldl (takeF key t) x.2 = takeS key t a}) [1, 2, 3, 4, 8, 9] (fun x => [(10, i64 x.1.1)]) (fun x => [(0, .box false 9 [.str key]), (1, .box false 34 [i64 x.1.2.1.1, i64 x.1.2.1.2]), (2, .box false 9 [.str x.1.2.2]), (3, .box false 38 t.cs)]) 4 (fun x => t.ws.length - x.1.1) ⟨(0, a), by simp, rfl⟩ (St.to_chk [] (by simp)) ?_
  rintro ⟨⟨i, b⟩, j1, j2⟩
  dsimp only at j1 j2 ⊢
  by_cases hi : i < t.ws.length
  · obtain ⟨w, hw0⟩ := getL_some hi
    have hw := wrI hi (by omega)
    rw [dropL_at hw0, List.foldl_cons] at j2
    by_cases hk : w.key = key
    · have hk' := eq_true hk
      have e : takeF key t b w = ((t.tm, t.ac), w.val) := if_pos hk
      rw [e] at j2
      simp [hw0, hk']
      refine ⟨fun _ => ?_, fun h => by omega⟩
      repeat' (first | intro _ | with_reducible refine And.intro ?_ ?_ | exact chkI (by kernel_rfl) | exact backI (by kernel_rfl) | fail)
      all_goals first | omega | (refine Exists.intro (i + 1) (And.intro (by omega) (Exists.intro t.tm (Exists.intro t.ac (Exists.intro w.val (And.intro (And.intro (by omega) j2) (St.to_chk [] ?_)))))); simp [hw]; done)
    · have hk' := eq_false hk
      have e : takeF key t b w = b := if_neg hk
      rw [e] at j2
      simp [hw0, hk']
      refine ⟨fun _ => ?_, fun h => by omega⟩
      repeat' (first | intro _ | with_reducible refine And.intro ?_ ?_ | exact chkI (by kernel_rfl) | exact backI (by kernel_rfl) | fail)
      all_goals first | omega | (refine Exists.intro (i + 1) (And.intro (by omega) (Exists.intro b.1.1 (Exists.intro b.1.2 (Exists.intro b.2 (And.intro (And.intro (by omega) j2) (St.to_chk [] ?_)))))); simp [hw]; done)
  · rw [List.drop_eq_nil_of_le (by omega), List.foldl_nil] at j2
    subst j2
    simp [hi]
    exact St.to_chk [] (by simp)
theorem insL_mem {x y : Trp} : ∀ {R : List Trp}, y ∈ insL x R → y = x ∨ y ∈ R
  | [], h => by simpa [insL] using h
  | a :: r, h => by
    rw [insL] at h
    split at h
    · rcases List.mem_cons.1 h with rfl | h
      · exact .inr (by simp)
      · rcases insL_mem h with h | h
        · exact .inl h
        · exact .inr (by simp [h])
    · rcases List.mem_cons.1 h with rfl | h
      · exact .inl rfl
      · exact .inr h
theorem srtR_mem {y : Trp} {l : List Trp} (h : y ∈ srtR l) : y ∈ l := by
  have key : ∀ (l R : List Trp), y ∈ l.foldl (fun R x => insL x R) R → y ∈ l ∨ y ∈ R := by
    intro l
    induction l with
    | nil => intro R h; exact .inr h
    | cons x r ih =>
      intro R h
      rw [List.foldl_cons] at h
      rcases ih _ h with h | h
      · exact .inl (by simp [h])
      · rcases insL_mem h with rfl | h
        · exact .inl (by simp)
        · exact .inr h
  rcases key l [] h with h | h
  · exact h
  · cases h
theorem sortedS_mem {y : Trp} {l : List Trp} (h : y ∈ sortedS l) : y ∈ l ∧ isCm y = true := by
  unfold sortedS at h
  have := srtR_mem (List.mem_reverse.1 h)
  rw [List.mem_filter] at this
  exact this
theorem sortedS_len (l : List Trp) : (sortedS l).length ≤ l.length := by
  unfold sortedS
  rw [List.length_reverse, srtR_len]
  exact List.length_filter_le _ _
theorem c_there (l : List Trp) (key : ByteArray) (tm ac : Int) (hl : l.length ≤ 19 := by assumption) (hs : ∀ t ∈ l, t.Small := by assumption) : Pure Try.prog 18 [.sl (l.map Trp.cs), .str key, .agg [i64 tm, i64 ac]] (.tup [.agg [i64 (thereS l key tm ac).1.1, i64 (thereS l key tm ac).1.2], .str (thereS l key tm ac).2]) := by
  have hsl := sortedS_len l
  have hsm : ∀ t ∈ sortedS l, t.Small := fun t ht => hs t (sortedS_mem ht).1
  refine pureQ_of_aw dOk Try.func18 rfl rfl rfl rfl rfl ?_
  simp [Try.f18]
  repeat' (first | intro _ | with_reducible refine And.intro ?_ ?_ | exact chkI (by kernel_rfl) | exact backI (by kernel_rfl) | (refine callA (by first | rfl | (simp; done) | (simp; rfl)) (c_cmpStm ..) ?_ <;> try simp) | (refine callB (by first | rfl | (simp; done) | (simp; rfl)) (c_cmpStm ..) ?_ <;> try simp) | (refine callA (by first | rfl | (simp; done) | (simp; rfl)) (c_cmpStm ..) ?_ <;> try simp) | (refine callB (by first | rfl | (simp; done) | (simp; rfl)) (c_cmpStm ..) ?_ <;> try simp) | (refine callA (by first | rfl | (simp; done) | (simp; rfl)) (c_sorted ..) ?_ <;> try simp) | (refine callB (by first | rfl | (simp; done) | (simp; rfl)) (c_sorted ..) ?_ <;> try simp) | (refine callH (by first | ((refine ⟨?_, ?_, ?_, ?_⟩ <;> repeat' (first | exact rfl | exact Or.inl rfl | exact Or.inr rfl | exact trivial | with_reducible constructor | refine ⟨?_, ?_⟩ | (simp; done))); done) | fail) (c_take ..) ?_ <;> try simp) | (refine callHD (by first | ((refine ⟨?_, ?_, ?_, ?_⟩ <;> repeat' (first | exact rfl | exact Or.inl rfl | exact Or.inr rfl | exact trivial | with_reducible constructor | refine ⟨?_, ?_⟩ | (simp; done))); done) | fail) (c_take ..) rfl ?_ <;> try simp) | fail)
  rw [thereS]
  generalize sortedS l = L at *
  refine aw_loopKM (α := {x : Nat × Acc // x.1 ≤ L.length ∧ (L.drop x.1).foldl (thereF key tm ac) x.2 = L.foldl (thereF key tm ac) ((0, 0), ⟨#[]⟩)}) [5, 6, 7, 8, 9, 10, 15, 16, 30, 31] (fun x => [(17, i64 x.1.1)]) (fun x => [(0, .box false 9 [.str key]), (1, .box false 34 [i64 tm, i64 ac]), (2, .box false 34 [i64 0, i64 0]), (3, .box false 34 [i64 x.1.2.1.1, i64 x.1.2.1.2]), (4, .box false 9 [.str x.1.2.2])]) 5 (fun x => L.length - x.1.1) ⟨(0, ((0, 0), ⟨#[]⟩)), by simp, rfl⟩ (St.to_chk [] (by simp)) ?_
  rintro ⟨⟨i, b⟩, j1, j2⟩
  dsimp only at j1 j2 ⊢
  by_cases hi : i < L.length
  · obtain ⟨t, ht⟩ := getL_some hi
    have hw := wrI hi (by omega)
    have hwl := (hsm t (List.mem_of_getElem? ht)).wl
    rw [dropL_at ht, List.foldl_cons] at j2
    by_cases ho : ord t.tm t.ac tm ac < 0
    · have ho' := eq_true ho
      have e : thereF key tm ac b t = takeS key t b := if_pos ho
      rw [e] at j2
      simp [ht]
      refine ⟨fun _ => ?_, fun h => by omega⟩
      repeat' (first | intro _ | with_reducible refine And.intro ?_ ?_ | exact chkI (by kernel_rfl) | exact backI (by kernel_rfl) | (refine callA (by first | rfl | (simp; done) | (simp; rfl)) (c_cmpStm ..) ?_ <;> try simp [ht, ho']) | (refine callB (by first | rfl | (simp; done) | (simp; rfl)) (c_cmpStm ..) ?_ <;> try simp [ht, ho']) | (refine callA (by first | rfl | (simp; done) | (simp; rfl)) (c_cmpStm ..) ?_ <;> try simp [ht, ho']) | (refine callB (by first | rfl | (simp; done) | (simp; rfl)) (c_cmpStm ..) ?_ <;> try simp [ht, ho']) | (refine callA (by first | rfl | (simp; done) | (simp; rfl)) (c_sorted ..) ?_ <;> try simp [ht, ho']) | (refine callB (by first | rfl | (simp; done) | (simp; rfl)) (c_sorted ..) ?_ <;> try simp [ht, ho']) | (refine callH (by first | ((refine ⟨?_, ?_, ?_, ?_⟩ <;> repeat' (first | exact rfl | exact Or.inl rfl | exact Or.inr rfl | exact trivial | with_reducible constructor | refine ⟨?_, ?_⟩ | (simp; done))); done) | fail) (c_take ..) ?_ <;> try simp [ht, ho']) | (refine callHD (by first | ((refine ⟨?_, ?_, ?_, ?_⟩ <;> repeat' (first | exact rfl | exact Or.inl rfl | exact Or.inr rfl | exact trivial | with_reducible constructor | refine ⟨?_, ?_⟩ | (simp; done))); done) | fail) (c_take ..) rfl ?_ <;> try simp [ht, ho']) | (refine callH (by first | ((refine ⟨?_, ?_, ?_, ?_⟩ <;> repeat' (first | exact rfl | exact Or.inl rfl | exact Or.inr rfl | exact trivial | with_reducible constructor | refine ⟨?_, ?_⟩ | (simp; done))); done) | fail) (c_take t key b) ?_ <;> try simp [ht, ho']) | fail)
      all_goals first | omega | (refine Exists.intro (i + 1) (And.intro (by omega) (Exists.intro (takeS key t b).1.1 (Exists.intro (takeS key t b).1.2 (Exists.intro (takeS key t b).2 (And.intro (And.intro (by omega) j2) (St.to_chk [] ?_)))))); simp [hw]; done)
    · have ho' := eq_false ho
      have e : thereF key tm ac b t = b := if_neg ho
      rw [e] at j2
      simp [ht]
      refine ⟨fun _ => ?_, fun h => by omega⟩
      repeat' (first | intro _ | with_reducible refine And.intro ?_ ?_ | exact chkI (by kernel_rfl) | exact backI (by kernel_rfl) | (refine callA (by first | rfl | (simp; done) | (simp; rfl)) (c_cmpStm ..) ?_ <;> try simp [ht, ho']) | (refine callB (by first | rfl | (simp; done) | (simp; rfl)) (c_cmpStm ..) ?_ <;> try simp [ht, ho']) | (refine callA (by first | rfl | (simp; done) | (simp; rfl)) (c_cmpStm ..) ?_ <;> try simp [ht, ho']) | (refine callB (by first | rfl | (simp; done) | (simp; rfl)) (c_cmpStm ..) ?_ <;> try simp [ht, ho']) | (refine callA (by first | rfl | (simp; done) | (simp; rfl)) (c_sorted ..) ?_ <;> try simp [ht, ho']) | (refine callB (by first | rfl | (simp; done) | (simp; rfl)) (c_sorted ..) ?_ <;> try simp [ht, ho']) | (refine callH (by first | ((refine ⟨?_, ?_, ?_, ?_⟩ <;> repeat' (first | exact rfl | exact Or.inl rfl | exact Or.inr rfl | exact trivial | with_reducible constructor | refine ⟨?_, ?_⟩ | (simp; done))); done) | fail) (c_take ..) ?_ <;> try simp [ht, ho']) | (refine callHD (by first | ((refine ⟨?_, ?_, ?_, ?_⟩ <;> repeat' (first | exact rfl | exact Or.inl rfl | exact Or.inr rfl | exact trivial | with_reducible constructor | refine ⟨?_, ?_⟩ | (simp; done))); done) | fail) (c_take ..) rfl ?_ <;> try simp [ht, ho']) | fail)
      all_goals first | omega | (refine Exists.intro (i + 1) (And.intro (by omega) (Exists.intro b.1.1 (Exists.intro b.1.2 (Exists.intro b.2 (And.intro (And.intro (by omega) j2) (St.to_chk [] ?_)))))); simp [hw]; done)
  · rw [List.drop_eq_nil_of_le (by omega), List.foldl_nil] at j2
    rw [← j2]
    simp [hi]
    repeat' (first | intro _ | with_reducible refine And.intro ?_ ?_ | exact chkI (by kernel_rfl) | exact backI (by kernel_rfl) | (refine callA (by first | rfl | (simp; done) | (simp; rfl)) (c_cmpStm ..) ?_ <;> try simp) | (refine callB (by first | rfl | (simp; done) | (simp; rfl)) (c_cmpStm ..) ?_ <;> try simp) | (refine callA (by first | rfl | (simp; done) | (simp; rfl)) (c_cmpStm ..) ?_ <;> try simp) | (refine callB (by first | rfl | (simp; done) | (simp; rfl)) (c_cmpStm ..) ?_ <;> try simp) | (refine callA (by first | rfl | (simp; done) | (simp; rfl)) (c_sorted ..) ?_ <;> try simp) | (refine callB (by first | rfl | (simp; done) | (simp; rfl)) (c_sorted ..) ?_ <;> try simp) | (refine callH (by first | ((refine ⟨?_, ?_, ?_, ?_⟩ <;> repeat' (first | exact rfl | exact Or.inl rfl | exact Or.inr rfl | exact trivial | with_reducible constructor | refine ⟨?_, ?_⟩ | (simp; done))); done) | fail) (c_take ..) ?_ <;> try simp) | (refine callHD (by first | ((refine ⟨?_, ?_, ?_, ?_⟩ <;> repeat' (first | exact rfl | exact Or.inl rfl | exact Or.inr rfl | exact trivial | with_reducible constructor | refine ⟨?_, ?_⟩ | (simp; done))); done) | fail) (c_take ..) rfl ?_ <;> try simp) | fail)
    all_goals first | omega
end Go.Proofs.Ytnldlkkcdgdkgaa.AX
