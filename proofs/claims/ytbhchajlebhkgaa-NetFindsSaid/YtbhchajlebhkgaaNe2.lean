/- Nets: what is sent, comes, is lost, and made two. -/
import Derived.Test.YtbhchajlebhkgaaNe1
namespace Go.Proofs.Ytbhchajlebhkgaa.AX
open Go Go.RowKit
set_option linter.unusedSimpArgs false
set_option linter.unusedVariables false
set_option maxRecDepth 100000
set_option maxHeartbeats 4000000
def NetS.at (n : NetS) (k : Int) : Option Msg := if 0 ≤ k then n.l[k.toNat]? else none
theorem NetS.at_some {n : NetS} {k : Int} {m : Msg} (h : n.at k = some m) : 0 ≤ k ∧ k < n.l.length ∧ n.l[k.toNat]? = some m := by
  unfold NetS.at at h
  split at h
  · have := (List.getElem?_eq_some_iff.1 h).1
    exact ⟨by assumption, by omega, h⟩
  · cases h
theorem NetS.at_none {n : NetS} {k : Int} (h : n.at k = none) : ¬ (0 ≤ k ∧ k < n.l.length) := by
  unfold NetS.at at h
  split at h
  · rw [List.getElem?_eq_none_iff] at h
    omega
  · omega
theorem msgs_len {l : List Msg} {x : List V} (h : x ∈ l.map Msg.cs) : x.length = 30 := by
  obtain ⟨m, -, rfl⟩ := List.mem_map.1 h
  rfl
structure NetS.Ok (n : NetS) : Prop where
  sent : 0 ≤ n.sent ∧ n.sent ≤ 1000000
  came : 0 ≤ n.came ∧ n.came ≤ 1000000
  lost : 0 ≤ n.lost ∧ n.lost ≤ 1000000
  len : n.l.length ≤ 1000
  small : ∀ m ∈ n.l, m.r.c.Small
def NetS.put (n : NetS) (m : Msg) : NetS := { n with l := n.l ++ [m], sent := n.sent + 1 }
theorem c_put (n : NetS) (m : Msg) (hn : n.Ok := by assumption) (hm : m.r.c.Small := by assumption) (hr : ((n.l.length : Int) = n.room) = False := by assumption) : Fn Try.prog 28 [.ptr 0 0, .agg m.cs] [(0, nbox n)] 1 (i64 0) [(0, nbox (n.put m))] 1 := by
  obtain ⟨h1, h2, h3, h4, h5⟩ := hn
  have hw : IntKind.i64.wrap (n.sent + 1) = n.sent + 1 := wr64 (by omega) (by omega)
  have ht : List.take n.l.length (n.l.map Msg.cs) = n.l.map Msg.cs := List.take_of_length_le (by simp)
  refine fn_of_aw dOk Try.func28 rfl rfl rfl rfl rfl (by simp) rfl (by simp) ?_
  simp [Try.f28, hr]
  repeat' (first | intro _ | with_reducible refine And.intro ?_ ?_ | exact chkI (by kernel_rfl) | exact backI (by kernel_rfl) | (refine callA (by first | rfl | (simp; done) | (simp; rfl)) (c_ownM ..) ?_ <;> try simp [hr, hw, ht]) | (refine callB (by first | rfl | (simp; done) | (simp; rfl)) (c_ownM ..) ?_ <;> try simp [hr, hw, ht]) | fail)
  all_goals first | omega | (refine St.to_chk [] ?_; simp; done) | (refine St.to_chk [] ?_; simp [NetS.put, *]; done) | exact msgs_len (List.mem_of_mem_take (by assumption)) | exact msgs_len (List.mem_of_mem_drop (by assumption)) | exact msgs_len (by assumption)
theorem c_putFull (n : NetS) (m : Msg) (hr : ((n.l.length : Int) = n.room) = True := by assumption) : Fn Try.prog 28 [.ptr 0 0, .agg m.cs] [(0, nbox n)] 1 (i64 7) [(0, nbox n)] 1 := by
  refine fn_of_aw dOk Try.func28 rfl rfl rfl rfl rfl (by simp) rfl (by simp) ?_
  simp [Try.f28, hr]
  repeat' (first | intro _ | with_reducible refine And.intro ?_ ?_ | exact chkI (by kernel_rfl) | exact backI (by kernel_rfl) | (refine callA (by first | rfl | (simp; done) | (simp; rfl)) (c_ownM ..) ?_ <;> try simp [hr]) | (refine callB (by first | rfl | (simp; done) | (simp; rfl)) (c_ownM ..) ?_ <;> try simp [hr]) | (refine callH (by first | ((refine ⟨?_, ?_, ?_, ?_⟩ <;> repeat' (first | exact rfl | exact Or.inl rfl | exact Or.inr rfl | exact trivial | with_reducible constructor | refine ⟨?_, ?_⟩ | (simp; done))); done) | fail) (c_put ..) ?_ <;> try simp [hr]) | (refine callHD (by first | ((refine ⟨?_, ?_, ?_, ?_⟩ <;> repeat' (first | exact rfl | exact Or.inl rfl | exact Or.inr rfl | exact trivial | with_reducible constructor | refine ⟨?_, ?_⟩ | (simp; done))); done) | fail) (c_put ..) rfl ?_ <;> try simp [hr]) | fail)
  all_goals first | omega | (refine St.to_chk [] ?_; simp; done) | (refine St.to_chk [] ?_; simp [NetS.put, *]; done) | exact msgs_len (List.mem_of_mem_take (by assumption)) | exact msgs_len (List.mem_of_mem_drop (by assumption)) | exact msgs_len (by assumption)
def NetS.out (n : NetS) (k : Nat) : NetS := { n with l := n.l.take k ++ n.l.drop (k + 1) }
theorem c_out (n : NetS) (k : Int) (hn : n.Ok := by assumption) (hk : 0 ≤ k ∧ k < n.l.length := by omega) : Fn Try.prog 29 [.ptr 0 0, i64 k] [(0, nbox n)] 1 (.tup []) [(0, nbox (n.out k.toNat))] 1 := by
  obtain ⟨h1, h2, h3, h4, h5⟩ := hn
  have hw : IntKind.i64.wrap (k + 1) = k + 1 := wr64 (by omega) (by omega)
  have ht : List.take n.l.length (n.l.map Msg.cs) = n.l.map Msg.cs := List.take_of_length_le (by simp)
  have k1 := eq_true hk.1
  have k2 : (k + 1).toNat = k.toNat + 1 := by omega
  have k3 := eq_true (show 0 ≤ k + 1 by omega)
  refine fn_of_aw dOk Try.func29 rfl rfl rfl rfl rfl (by simp) rfl (by simp) ?_
  simp [Try.f29, hw, k1, k2, k3, ht]
  repeat' (first | intro _ | with_reducible refine And.intro ?_ ?_ | exact chkI (by kernel_rfl) | exact backI (by kernel_rfl) | fail)
  all_goals first | omega | (refine St.to_chk [] ?_; simp; done) | (refine St.to_chk [] ?_; simp [NetS.put, *]; done) | exact msgs_len (List.mem_of_mem_take (by assumption)) | exact msgs_len (List.mem_of_mem_drop (by assumption)) | exact msgs_len (by assumption) | (refine (St.to_fz 3).trans ((St.to_tell 0 (n.out k.toNat).cs (T := 74) (cs := [i64 n.sent, i64 n.came, i64 n.lost, .rf 3, i64 n.room]) ?_ ?_).trans (St.to_chk [] ?_)) <;> simp [NetS.out]; done)
end Go.Proofs.Ytbhchajlebhkgaa.AX
