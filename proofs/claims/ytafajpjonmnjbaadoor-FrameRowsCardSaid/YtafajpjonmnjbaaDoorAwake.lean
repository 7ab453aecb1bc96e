import Derived.Test.YtafajpjonmnjbaaDoorPut
import Derived.Lib.SlBytesConst
namespace Go.Proofs.YtafajpjonmnjbaaDoor.Fr
open Go.RowKit Go.Proofs.YtafajpjonmnjbaaDoorW.PrintWords Go.Proofs.YtafajpjonmnjbaaDoorW.PrintLast Go.Proofs.YtafajpjonmnjbaaDoorW.PrintMore Go.Proofs.YtafajpjonmnjbaaDoor.Kit
set_option linter.unusedVariables false
set_option linter.unusedSimpArgs false
def nine : List Int := [49, 50, 51, 52, 53, 54, 55, 56, 57]
theorem crc_nine : crc nine = 3421780262 := by decide +kernel
theorem nine_cells : ∀ i, i < nine.length → (#[Value.int .u8 49, .int .u8 50, .int .u8 51, .int .u8 52, .int .u8 53, .int .u8 54, .int .u8 55, .int .u8 56, .int .u8 57] : Array Value)[0 + i]? = some (.int .u8 (nine.getD i 0)) := by
  intro i hi
  match i, hi with
  | 0, _ | 1, _ | 2, _ | 3, _ | 4, _ | 5, _ | 6, _ | 7, _ | 8, _ => rfl
def TruePost (w : World) (e : Ending) (w' : World) : Prop := e = .returned (.bool true) ∧ Below w.heap.size w w'
set_option maxHeartbeats 1000000 in
theorem awake_calls (w : World) (hT : Steps w) : Calls Tryd.prog 9 #[] w (TruePost w) := by
  have HT := Aside0.mk hT
  clear hT
  have hcv := fun W => Lib.run_convert_bytes_const (P := Tryd.prog) W 22 5 #[.int .u8 49, .int .u8 50, .int .u8 51, .int .u8 52, .int .u8 53, .int .u8 54, .int .u8 55, .int .u8 56, .int .u8 57] 9 9 Tryd.underlying22 Tryd.underlying5
  have hl9 : (frame [7]).length = 9 := by decide +kernel
  go_enter Tryd.func9, Tryd.ntmps9
  go_wp2_with (first | ((with_reducible refine gate_dst (N := 4) rfl ?_); refine lit_event (w0 := w) w.heap.size rfl (N := 4) rfl .u8 5 [7] ?hr (Below.refl _ _) (Nat.le_refl _) (by simp) ?_; (case hr => first | (go_simp; done) | (go_simp; rfl) | (go_simp; exact ⟨rfl, rfl⟩)); intro v4 w4 ho4 hb4 _; obtain ⟨A4, c4, ev4, hc4, hr4⟩ := ho4.reads; subst ev4; have HR4 := Aside0.mk hr4; have HB4 := Aside0.mk hb4; clear ho4 hb4 hc4 hr4) | (go_at_call 14; refine calls_of_args (args' := #[.slice none ([] : List Int).length 0, .slice A4 ([7] : List Int).length c4]) rfl ((Put_ok none A4 0 c4 [] [7] _ (Kd.C_nil _ _) HR4.out (HT.out.below HB4.out) (by simp) (by simp)).mono ?_); rintro e w5 ⟨v5, rfl, ho5, hb5⟩; obtain ⟨A5, c5, ev5, hc5, hr5⟩ := ho5.reads; subst ev5; have HB5 := Aside0.mk (below_then HB4.out HB4.out.size hb5); clear ho5 hb5 hc5 hr5) | (go_at_call 11; refine calls_of_args (args' := #[.slice (some ⟨w5.heap.size, 0, none⟩) nine.length 9]) rfl ((Sum_calls (some ⟨w5.heap.size, 0, none⟩) 9 nine _ ?hC (by decide) ?hS).mono ?_); (case hC => exact C_of_block (off := 0) (blk_new _ _) nine_cells (by decide)); (case hS => exact HT.out.below (below_alloc HB5.out _)); rintro e w' ⟨rfl, ⟨nd, rfl⟩⟩; rw [crc_nine]) | (go_at_call 15; go_in) | (go_at_call 22; go_in))
  go_ret
  exact ⟨rfl, pw_below_drewN (below_alloc HB5.out _) _⟩
end Go.Proofs.YtafajpjonmnjbaaDoor.Fr
