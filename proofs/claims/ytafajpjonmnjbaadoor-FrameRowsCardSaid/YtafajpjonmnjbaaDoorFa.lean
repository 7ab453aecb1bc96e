import Derived.Test.YtafajpjonmnjbaaDoorPFrameGetsx1
import Derived.Test.YtafajpjonmnjbaaDoorKit
namespace Go.Proofs.YtafajpjonmnjbaaDoor.Fr
open Go.RowKit Go.Proofs.YtafajpjonmnjbaaDoorW.PrintWords Go.Proofs.YtafajpjonmnjbaaDoorW.PrintLast Go.Proofs.YtafajpjonmnjbaaDoorW.PrintMore Go.Proofs.YtafajpjonmnjbaaDoor.Kit
set_option linter.unusedVariables false
set_option linter.unusedSimpArgs false

theorem info5 : (Tryd.prog.info? 5).map (fun i => (i.zero, i.size, i.bytes)) = some (some (.int .u8 0), 1, 1) := by kernel_rfl
theorem size5 : (Tryd.prog.info? 5).map (·.size) = some 1 := by kernel_rfl

/-- The cells of a row of whole numbers that is read. -/
theorem own_reads_C {k : IntKind} {w : World} {A : Option Addr} {n : Nat} {xs : List Int} (h : (Kd.int k).C w A n xs) (hn : 0 < n) : ∃ ad, A = some ad ∧ ∀ j u, (nums k xs)[j]? = some u → w.cell? (ad.add j) = some u := by
  obtain ⟨ad, e, _⟩ := at_nat h 0 hn
  refine ⟨ad, e, fun j u hu => ?_⟩
  have hj : j < (nums k xs).length := (List.getElem?_eq_some_iff.1 hu).1
  have hj' : j < xs.length := by simpa [nums] using hj
  obtain ⟨ad', e', hx⟩ := at_nat h j (by have := h.1; omega)
  rw [e] at e'
  cases e'
  rw [hx]
  simp only [nums, List.getElem?_map, List.getElem?_eq_getElem hj', Option.map_some] at hu
  rw [← hu]
  simp [hj']
/-- own: a copy at the head of a block of its own, with sixteen zeros behind. -/
def OwnPost (l : List Int) (w : World) (e : Ending) (w' : World) : Prop :=
  ∃ g, e = .returned (.slice (some ⟨g, 0, none⟩) l.length (l.length + 16)) ∧ w.heap.size ≤ g ∧ w'.heap[g]? = some (.cells (nums .u8 l ++ List.replicate 16 (Value.int .u8 0)).toArray 5 (0, 0)) ∧ Below w.heap.size w w'
set_option maxHeartbeats 400000 in
theorem own_calls (A0 : Option Addr) (c0 : Nat) (l0 : List Int) (w : World) (hr0 : Kd.C (Kd.int .u8) w A0 l0.length l0) (hlen : l0.length ≤ 100000) :
    Calls Tryd.prog 10 #[.slice A0 l0.length c0] w (OwnPost l0 w) := by
  have HR0 := Aside0.mk hr0
  clear hr0
  go_enter Tryd.func10, Tryd.ntmps10
  go_wp2_with (first | ((with_reducible refine gate_dst (N := 6) rfl ?_); refine make_event rfl (N := 6) rfl 22 _ _ rfl .i64 .i64 0 (l0.length + 16) rfl rfl (by omega) 5 (.int .u8 0) 1 Tryd.underlying22 info5 rfl (by omega) (by omega) ?_; intro g hg w1 hb1 hbel; have hgl := Aside0.mk (Nat.le_of_eq hg.symm); clear hg; have HB1 := Aside0.mk hb1; have HL := Aside0.mk hbel; clear hb1 hbel) | ((with_reducible refine gate_dst (N := 8) rfl ?_); refine append_room_event rfl (N := 8) rfl _ _ 22 rfl 5 Tryd.underlying22 size5 g 0 (l0.length + 16) (List.replicate (l0.length + 16) (Value.int .u8 0)) HB1.out rfl A0 l0.length c0 (nums .u8 l0) rfl (by simp [nums]) ?hR ?h1 (by omega) (by simp) ?_; (case hR => intro h; obtain ⟨ad, e, hc⟩ := own_reads_C (Kd.C_below HR0.out HL.out) h; exact ⟨ad, e, hc⟩); (case h1 => intro u hu; simp only [nums, List.mem_map] at hu; obtain ⟨q, _, rfl⟩ := hu; rfl); intro w2 hb2 hg2; have HB2 := Aside0.mk hb2; have HG2 := Aside0.mk hg2; clear hb2 hg2))
  go_ret
  refine ⟨g, by simp, hgl.out, ?_, ?_⟩
  · have := HB2.out
    simpa [nums] using this
  · exact HL.out.grown HG2.out HL.out.size (fun k hk => by cases hk; exact hgl.out)
end Go.Proofs.YtafajpjonmnjbaaDoor.Fr
