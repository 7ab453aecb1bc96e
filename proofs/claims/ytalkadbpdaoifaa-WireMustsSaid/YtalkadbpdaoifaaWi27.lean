/- Whether something is a record, and what panics if it is none. -/
import Derived.Test.YtalkadbpdaoifaaWi26
import Derived.Tactics
import Derived.Tactics2
import Derived.Defers
import Derived.Recover
import Derived.OwnWalk
import Derived.Laws.Pointers
import Derived.Deep.RegionHeld
namespace Go.Proofs.Ytalkadbpdaoifaa.AX
open Go Go.RowKit
set_option linter.unusedSimpArgs false
set_option linter.unusedVariables false
set_option maxRecDepth 100000
set_option maxHeartbeats 4000000
theorem catch_panicking (p : Addr) (x : Bool) (u : TypeId) (pv : Value) (older : List PanicEntry) (w : World) (hc : w.cell? p = some (.bool x)) (hz : w.frozen? p = false) :
    CallsD Try.prog 53 #[.pointer (some p)] (.panicking ({ v := .iface u pv, recovered := false } :: older)) w fun e u' w' =>
      e = .returned (.tuple #[]) ∧ u' = .panicking ({ v := .iface u pv, recovered := true } :: older) ∧ w' = w.setCell p (.bool true) := by
  refine callsD_of_wpS Try.func53 rfl fun c₀ cs hu => ?_
  apply wpS_region
  simp [wpOpsS, go_sem, recoverD, hu, Try.ntmps53, hc, hz, bodyPostS, results, Try.results53]
theorem catch_idle (p : Addr) (x : Bool) (w : World) (hc : w.cell? p = some (.bool x)) (hz : w.frozen? p = false) :
    CallsD Try.prog 53 #[.pointer (some p)] .returning w fun e u' w' => e = .returned (.tuple #[]) ∧ u' = .returning ∧ w' = w.setCell p (.bool false) := by
  refine callsD_of_wpS Try.func53 rfl fun c₀ cs hu => ?_
  apply wpS_region
  simp [wpOpsS, go_sem, recoverD, hu, Try.ntmps53, hc, hz, bodyPostS, results, Try.results53]
  cases c₀
  simp_all
theorem frozen_new (W : World) (xs : Array Value) (T : TypeId) (x : Addr) : (W.alloc (.cells xs T)).frozen? x = W.frozen? x := by
  by_cases e : x.block = W.heap.size
  · obtain ⟨bl, off, sp⟩ := x
    simp only at e
    subst e
    have h1 : W.heap[W.heap.size]? = none := by simp
    have h2 := (MapKept.heap_alloc W (.cells xs T)).1
    unfold World.frozen?
    show (match (W.alloc (.cells xs T)).heap[W.heap.size]? with | some (.cells _ _ (lo, hi)) => decide (lo ≤ off) && decide (off < hi) | _ => false) = (match W.heap[W.heap.size]? with | some (.cells _ _ (lo, hi)) => decide (lo ≤ off) && decide (off < hi) | _ => false)
    rw [h2, h1]
    simp
  · exact World.frozen?_alloc_old W _ x e
theorem fz0 (w : World) : w.frozen? ⟨w.heap.size, 0, none⟩ = false := by
  have h1 : w.heap[w.heap.size]? = none := by simp
  unfold World.frozen?
  simp only [h1]
theorem fz3 (w : World) (A B C : Array Value) (S T U : TypeId) : (((w.alloc (.cells A S)).alloc (.cells B T)).alloc (.cells C U)).frozen? ⟨w.heap.size, 0, none⟩ = false := by
  rw [frozen_new, frozen_new, frozen_new, fz0]
theorem fz2 (w : World) (A B : Array Value) (S T : TypeId) : ((w.alloc (.cells A S)).alloc (.cells B T)).frozen? ⟨w.heap.size, 0, none⟩ = false := by
  rw [frozen_new, frozen_new, fz0]
theorem cell1 (w : World) (b : Bool) (T : TypeId) : (w.alloc (.cells #[.bool b] T)).cell? ⟨w.heap.size, 0, none⟩ = some (.bool b) := by
  rw [World.cell?_alloc_at _ _ _ _ rfl]; rfl
theorem cell2 (w : World) (b : Bool) (T : TypeId) (O : Obj) : ((w.alloc (.cells #[.bool b] T)).alloc O).cell? ⟨w.heap.size, 0, none⟩ = some (.bool b) := by
  rw [World.cell?_alloc_some _ _ _ (by rw [cell1]; rfl), cell1]
theorem cell3 (w : World) (b : Bool) (T : TypeId) (O O' : Obj) : (((w.alloc (.cells #[.bool b] T)).alloc O).alloc O').cell? ⟨w.heap.size, 0, none⟩ = some (.bool b) := by
  rw [World.cell?_alloc_some _ _ _ (by rw [cell2]; rfl), cell2]
theorem gr_tr {a b c : World} (h : a.grownBy b none) (k : b.grownBy c none) : a.grownBy c none :=
  ⟨k.os.trans h.os, k.tape.trans h.tape, k.output.trans h.output, Nat.le_trans h.size k.size, fun i hi _ => (k.block i (Nat.lt_of_lt_of_le hi h.size) (by simp)).trans (h.block i hi (by simp))⟩
theorem gr_set {a b : World} (h : a.grownBy b none) (v : Value) {p : Addr} (hp : p.block = a.heap.size) : a.grownBy (b.setCell p v) none := by
  obtain ⟨h1, h2, h3, h4, h5⟩ := h
  refine ⟨h1, h2, h3, by simpa [World.setCell] using h4, fun i hi hn => ?_⟩
  have e : (b.setCell p v).heap[i]? = b.heap[i]? := by
    simp only [World.setCell, Array.getElem?_modify]
    rw [if_neg (by omega)]
  rw [e]
  exact h5 i hi hn
theorem panics_bad (c : Value) (X : Array Value) (ta : ∀ w, (Instr.typeAssert c 20 37 false).run Try.prog w = .halt (.panic (.iface 15 (.pointer (some ⟨w.heap.size, 0, none⟩)))) (w.alloc (.cells X 139))) (w : World) :
    Calls Try.prog 25 #[c] w fun e w' => e = .returned (.bool true) ∧ w.grownBy w' none := by
  have hmf : ∀ (fn : Go.Fn) (first cap : Array Value) (w : World), (Instr.makeFunc fn first cap).run Try.prog w = .ok (.func fn first cap) w := fun _ _ _ _ => rfl
  go_enter_defers Try.func25, Try.ntmps25
  go_wp2
  refine ⟨rfl, ?_⟩
  dsimp only
  refine leaves_cons (f := 53) (args := #[.pointer (some ⟨w.heap.size, 0, none⟩)]) (by simp) (by simp [go_sem]) ?_
  refine (catch_panicking ⟨w.heap.size, 0, none⟩ false 15 _ [] _ (cell3 ..) (fz3 ..)).mono ?_
  rintro e u' w'' ⟨rfl, rfl, rfl⟩
  have hg : ∀ (O O' O'' : Obj), w.grownBy (((w.alloc O).alloc O').alloc O'') none := fun O O' O'' => gr_tr (World.grownBy_alloc _ _ _) (gr_tr (World.grownBy_alloc _ _ _) (World.grownBy_alloc _ _ _))
  have hc := fun O O' => World.cell?_setCell_same' (((w.alloc (.cells #[.bool false] 4)).alloc O).alloc O') ⟨w.heap.size, 0, none⟩ (.bool true) (by rw [cell3]; rfl)
  simp [Leaves, settle, results, Try.results25, go_sem, hc]
  exact gr_set (hg _ _ _) _ rfl
theorem panics_good (c : Value) (w : World) (must : ∀ O, Calls Try.prog 26 #[c] (w.alloc O) fun e w' => ∃ v, e = .returned v ∧ (w.alloc O).grownBy w' none) :
    Calls Try.prog 25 #[c] w fun e w' => e = .returned (.bool false) ∧ w.grownBy w' none := by
  have hmf : ∀ (fn : Go.Fn) (first cap : Array Value) (w : World), (Instr.makeFunc fn first cap).run Try.prog w = .ok (.func fn first cap) w := fun _ _ _ _ => rfl
  have hc1 := cell1 w false 4
  have hz1 : ∀ {w1 : World}, (w.alloc (.cells #[.bool false] 4)).grownBy w1 none → w1.cell? ⟨w.heap.size, 0, none⟩ = some (.bool false) ∧ w1.frozen? ⟨w.heap.size, 0, none⟩ = false := by
    intro w1 hg
    have hlt : w.heap.size < (w.alloc (.cells #[.bool false] 4)).heap.size := by show w.heap.size < (w.heap.push _).size; rw [Array.size_push]; omega
    have hb := hg.block w.heap.size hlt (by simp)
    refine ⟨(World.cell?_of_block (a := ⟨w.heap.size, 0, none⟩) hb).trans hc1, (World.frozen?_of_block (a := ⟨w.heap.size, 0, none⟩) hb).trans ?_⟩
    rw [frozen_new, fz0]
  go_enter_defers Try.func25, Try.ntmps25
  go_wp2_with (go_at_call 26; (refine (must _).mono ?_); rintro e w1 ⟨v, rfl, hg⟩; have hcc := (hz1 hg).1; have hzz := (hz1 hg).2)
  refine leaves_cons (f := 53) (args := #[.pointer (some ⟨w.heap.size, 0, none⟩)]) (by simp) (by simp [go_sem]) ?_
  refine (catch_idle ⟨w.heap.size, 0, none⟩ false _ (World.cell?_setCell_same' _ _ _ (by rw [(hz1 ‹_›).1]; rfl)) (by rw [World.frozen?_setCell]; exact (hz1 ‹_›).2)).mono ?_
  rintro e u' w'' ⟨rfl, rfl, rfl⟩
  have hgw := gr_tr (World.grownBy_alloc w (.cells #[.bool false] 4) none) ‹(w.alloc (.cells #[.bool false] 4)).grownBy w1 none›
  have hcA := World.cell?_setCell_same' w1 ⟨w.heap.size, 0, none⟩ (.bool false) (by rw [(hz1 ‹_›).1]; rfl)
  have hcB := World.cell?_setCell_same' (w1.setCell ⟨w.heap.size, 0, none⟩ (.bool false)) ⟨w.heap.size, 0, none⟩ (.bool false) (by rw [hcA]; rfl)
  simp [Leaves, settle, results, Try.results25, go_sem, hcB]
  exact gr_set (gr_set hgw _ rfl) _ rfl
theorem pure_flat {f : FuncId} {args : List V} {b : Bool} (he : enters Try.prog f = true)
    (h : ∀ (H : Imm) (w : World) (cargs : List Value), RepL H φ0 args cargs → (∀ k o, H k = some o → w.heap[k]? = some o) → Calls Try.prog f cargs.toArray w fun e w' => e = .returned (.bool b) ∧ w.grownBy w' none) : Pure Try.prog f args (.bool b) := by
  refine ⟨he, fun H w cargs hr hi => (h H w cargs hr hi).mono ?_⟩
  rintro e w' ⟨rfl, hg⟩
  exact ⟨_, _, H, rfl, rfl, .d _ _ (.bool _), Imm.le_refl _, fun k o hk => by rw [hg.block k (Imm.lt hi hk) (by simp)]; exact hi k o hk, fun k o hk => .inl hk, hg⟩
theorem repL_only {H : Imm} {φ : Nat → Option Value} {v : V} {cs : List Value} (h : RepL H φ [v] cs) : ∃ c, cs = [c] ∧ Rep H φ v c := by
  match cs, h.1, h with
  | [c], _, h => exact ⟨c, rfl, h.2 0 v c rfl rfl⟩
theorem ta_nil (w : World) : (Instr.typeAssert .nilIface 20 37 false).run Try.prog w = .halt (.panic (.iface 15 (.pointer (some ⟨w.heap.size, 0, none⟩)))) (w.alloc (.cells #[typeHandle Try.prog 20, .pointer none, typeHandle Try.prog 37, strVal ""] 139)) := by
  simp [Instr.typeAssert, runtimePanic, elemOf, newVar, newRow, go_sem]
theorem ta_other (T : TypeId) (z : Value) (h : T ≠ 37) (w : World) : (Instr.typeAssert (.iface T z) 20 37 false).run Try.prog w = .halt (.panic (.iface 15 (.pointer (some ⟨w.heap.size, 0, none⟩)))) (w.alloc (.cells #[typeHandle Try.prog 20, typeHandle Try.prog T, typeHandle Try.prog 37, strVal ""] 139)) := by
  simp [Instr.typeAssert, runtimePanic, elemOf, newVar, newRow, go_sem, h]
theorem c_panNil : Pure Try.prog 25 [.nili] (.bool true) := by
  refine pure_flat (by kernel_rfl) fun H w cargs hr hi => ?_
  obtain ⟨c, rfl, hc⟩ := repL_only hr
  rw [rep_nili hc]
  exact panics_bad _ _ ta_nil w
theorem c_panOther (T : TypeId) (v : V) (h : T ≠ 37 := by decide) : Pure Try.prog 25 [.ifc T v] (.bool true) := by
  refine pure_flat (by kernel_rfl) fun H w cargs hr hi => ?_
  obtain ⟨c, rfl, hc⟩ := repL_only hr
  obtain ⟨z, rfl, _⟩ := rep_ifc hc
  exact panics_bad _ _ (ta_other T z h) w
theorem c_panRec (r : Rec) : Pure Try.prog 25 [.ifc 37 (.agg r.cs)] (.bool false) := by
  refine pure_flat (by kernel_rfl) fun H w cargs hr hi => ?_
  have hr' := hr
  obtain ⟨c, rfl, hc⟩ := repL_only hr
  refine panics_good c w fun O => ?_
  have hg := World.grownBy_alloc w O none
  refine ((c_must r).2 H (w.alloc O) [c] hr' (fun k o hk => by rw [hg.block k (Imm.lt hi hk) (by simp)]; exact hi k o hk)).mono ?_
  rintro e w' ⟨v, _, _, h1, _, _, _, _, _, h2⟩
  exact ⟨v, h1, h2⟩
theorem c_noRecM2 (n : Int) (r : Rec) : Pure Try.prog 24 [.ifc 39 (.agg ([i64 n, i64 0, i64 0, i64 0, i64 0] ++ r.cs))] (.tup [.agg zeroRec, .bool false]) := c_noRecM ⟨n, 0, 0, 0, 0, r⟩
end Go.Proofs.Ytalkadbpdaoifaa.AX
