import Derived.Test.YtafajpjonmnjbaaDoorFb
import Derived.Deep.RegionHeld3
namespace Go.Proofs.YtafajpjonmnjbaaDoor.Fr
open Go.RowKit Go.Proofs.YtafajpjonmnjbaaDoorW.PrintWords Go.Proofs.YtafajpjonmnjbaaDoorW.PrintLast Go.Proofs.YtafajpjonmnjbaaDoorW.PrintMore Go.Proofs.YtafajpjonmnjbaaDoor.Kit Go.Proofs.YtafajpjonmnjbaaDoor.PFrameGets
set_option linter.unusedVariables false
set_option linter.unusedSimpArgs false
def zero16 : List Int := List.replicate 16 0
theorem zero_get (i : Nat) (h : i < 16) : zero16.getD i 0 = 0 := by
  unfold zero16
  rw [List.getD_eq_getElem?_getD, List.getElem?_replicate, if_pos h]; rfl
theorem zero_cells : ∀ i, i < zero16.length → ((List.replicate 16 (Value.int .u8 0)).toArray)[0 + i]? = some (.int .u8 (zero16.getD i 0)) := by
  intro i hi
  have h : i < 16 := hi
  rw [Nat.zero_add, List.getElem?_toArray, List.getElem?_replicate, if_pos h, zero_get i h]
theorem spare_reads {w' : World} {g : Nat} {l : List Int} (h : w'.heap[g]? = some (.cells (nums .u8 l ++ List.replicate 16 (Value.int .u8 0)).toArray 5 (0, 0))) (hl : l.length ≤ 100000) : Kd.C (Kd.int .u8) w' (some ⟨g, l.length, none⟩) zero16.length zero16 :=
  C_of_block h (fun i hi => by
    have h : i < 16 := hi
    rw [List.getElem?_toArray, List.getElem?_append_right (by simp [nums]), zero_get i h]
    have e : l.length + i - (nums .u8 l).length = i := by simp [nums]
    rw [e, List.getElem?_replicate, if_pos h]) (by decide)
theorem cut_all (g n : Nat) (u : World) (hn : n ≤ 100000) : (Instr.slice 22 (.slice (some ⟨g, 0, none⟩) n (n + 16)) none (some (.int .i64 ((n : Int) + 16))) none).run Tryd.prog u = .ok (.slice (some ⟨g, 0, none⟩) (n + 16) (n + 16)) u := by
  have he : Tryd.prog.elem 22 = 5 := by kernel_rfl
  have hz : (sizeOf 5).run Tryd.prog u = .ok 1 u := by kernel_rfl
  have e : ((n : Int) + 16).toNat = n + 16 := by omega
  rw [run_slice_h (w := u) (t := 22) (a := some ⟨g, 0, none⟩) (len := n) (cap := n + 16) (by rw [he]; exact Tryd.underlying22) .i64 _ (by omega) (by omega), he, hz, e]
  simp [Result.andThen, sliced, Addr.add_lit]
theorem cut_tail (g n : Nat) (u : World) (hn : n ≤ 100000) : (Instr.slice 22 (.slice (some ⟨g, 0, none⟩) (n + 16) (n + 16)) (some (.int .i64 (n : Int))) none none).run Tryd.prog u = .ok (.slice (some ⟨g, n, none⟩) 16 16) u := by
  have he : Tryd.prog.elem 22 = 5 := by kernel_rfl
  have hz : (sizeOf 5).run Tryd.prog u = .ok 1 u := by kernel_rfl
  rw [run_slice_l (w := u) (t := 22) (a := some ⟨g, 0, none⟩) (len := n + 16) (cap := n + 16) (by rw [he]; exact Tryd.underlying22) .i64 _ (by omega) (by omega), he, hz]
  simp [Result.andThen, sliced, Addr.add_lit]
theorem make16 (u : World) : (Instr.makeSlice 22 (.int .i64 16) (.int .i64 16)).run Tryd.prog u = .ok (.slice (some ⟨u.heap.size, 0, none⟩) 16 16) (u.alloc (.cells (List.replicate 16 (Value.int .u8 0)).toArray 5)) := by
  have := run_make_row' (P := Tryd.prog) 22 5 (.int .u8 0) 1 Tryd.underlying22 info5 rfl .i64 .i64 16 (by decide) (by decide) u
  rw [madeCells_eq] at this
  exact this
end Go.Proofs.YtafajpjonmnjbaaDoor.Fr
