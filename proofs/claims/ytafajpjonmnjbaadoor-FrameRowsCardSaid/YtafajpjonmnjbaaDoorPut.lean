import Derived.Test.YtafajpjonmnjbaaDoorSum
import Derived.Test.YtafajpjonmnjbaaDoorFa
namespace Go.Proofs.YtafajpjonmnjbaaDoor.Fr
open Go.RowKit Go.Proofs.YtafajpjonmnjbaaDoorW.PrintWords Go.Proofs.YtafajpjonmnjbaaDoorW.PrintLast Go.Proofs.YtafajpjonmnjbaaDoorW.PrintMore Go.Proofs.YtafajpjonmnjbaaDoor.Kit
set_option linter.unusedVariables false
set_option linter.unusedSimpArgs false

def not8 (x : Int) : Int := Go.bits .xor .u8 IntKind.u8.max x
def hdr (n : Int) : List Int := [n % 256, n / 256, not8 (n % 256), not8 (n / 256)]
def sumBytes (s : Int) (k : Nat) : List Int := (List.range k).map fun j => s / 256 ^ j % 256
def frame (p : List Int) : List Int := (hdr p.length ++ p) ++ sumBytes (crc (hdr p.length ++ p)) 4
theorem Steps.below {w w1 : World} (h : Steps w) (hb : Below w.heap.size w w1) : Steps w1 := fun x h0 h1 => (hb.cell (p := ⟨0, x.toNat, none⟩) (World.block_lt_of_cell? w _ (h x h0 h1))).trans (h x h0 h1)

def PutBad (w : World) (e : Ending) (w' : World) : Prop := e = .returned (.tuple #[.slice none 0 0, .int .i64 1]) ∧ w = w'
theorem Put_bad (A0 A1 : Option Addr) (n0 c0 n1 c1 : Nat) (w : World) (h : n1 < 1 ∨ 4096 < n1) (hm : n1 ≤ 9223372036854775807) :
    Calls Tryd.prog 14 #[.slice A0 n0 c0, .slice A1 n1 c1] w (PutBad w) := by
  by_cases h1 : n1 < 1
  · go_enter Tryd.func14, Tryd.ntmps14
    go_wp2
    go_ret2
    exact ⟨by simp, rfl⟩
  · have h2 : decide ((n1 : Int) ≤ 4096) = false := decide_eq_false (by omega)
    go_enter Tryd.func14, Tryd.ntmps14
    go_wp2
    go_ret2
    exact ⟨by simp, rfl⟩
theorem ret_u32 {a b : Int} (h : a = b) : Value.int .u32 a = Value.int .u32 b := by rw [h]
theorem div_pow256 (a : Int) (k : Nat) : a / 256 ^ k / 256 = a / 256 ^ (k + 1) := by rw [Int.pow_succ, Int.ediv_ediv_of_nonneg (Int.pow_nonneg (by omega))]
theorem sumBytes_succ (s : Int) (k : Nat) : sumBytes s (k + 1) = sumBytes s k ++ [s / 256 ^ k % 256] := by simp [sumBytes, List.range_succ]
/-- Put: the payload's frame behind the bytes, in memory of its own. -/
def PutPost (w : World) (r : List Int) (e : Ending) (w' : World) : Prop :=
  ∃ v, e = .returned (.tuple #[v, .int .i64 0]) ∧ Own .u8 5 w' w.heap.size v r ∧ Below w.heap.size w w'
set_option maxHeartbeats 1000000 in
theorem Put_ok (A0 A1 : Option Addr) (c0 c1 : Nat) (l0 l1 : List Int) (w : World) (hr0 : Kd.C (Kd.int .u8) w A0 l0.length l0) (hr1 : Kd.C (Kd.int .u8) w A1 l1.length l1) (hT : Steps w)
    (h : 1 ≤ l1.length ∧ l1.length ≤ 4096) (hl : l0.length ≤ 1000000) :
    Calls Tryd.prog 14 #[.slice A0 l0.length c0, .slice A1 l1.length c1] w (PutPost w (l0 ++ frame l1)) := by
  have HR0 := Aside0.mk hr0
  have HR1 := Aside0.mk hr1
  have HT := Aside0.mk hT
  clear hr0 hr1 hT
  have h1 : decide ((l1.length : Int) ≤ 4096) = true := decide_eq_true (by omega)
  have h2 : decide (1 ≤ (l1.length : Int)) = true := decide_eq_true (by omega)
  have hsg : IntKind.u8.signed = false := rfl
  obtain ⟨y, hy⟩ : ∃ y, y = hdr l1.length ++ l1 := ⟨_, rfl⟩
  have HY := Aside0.mk hy
  clear hy
  go_enter Tryd.func14, Tryd.ntmps14
  go_wp2_with (first | ((with_reducible refine gate_dst (N := 26) rfl ?_); refine lit_event (w0 := w) w.heap.size rfl (N := 26) rfl .u8 5 (hdr l1.length) ?hr (Below.refl _ _) (Nat.le_refl _) (by simp [hdr]) ?_; (case hr => first | (go_simp; done) | (go_simp; rfl) | (go_simp; exact ⟨rfl, rfl⟩)); intro v1 w1 ho1 hb1 hb1'; have HO1 := Aside0.mk ho1; have HB1 := Aside0.mk hb1; clear ho1 hb1 hb1') | ((with_reducible refine gate_dst (N := 28) rfl ?_); refine appN_event (w0 := w) w.heap.size rfl (N := 28) rfl .u8 _ _ 22 5 (.int .u8 0) 1 rfl Tryd.underlying22 info5 rfl (by omega) v1 (hdr l1.length) l1 A1 l1.length c1 rfl rfl HO1.out (Kd.C_below HR1.out HB1.out) HB1.out HB1.out.size (by simp [hdr]; omega) ?_; intro v2 w2 ho2 hb2 hg2; rw [← HY.out] at ho2; have HO2 := Aside0.mk ho2; have HB2 := Aside0.mk hb2; clear ho2 hb2 hg2 HO1 HB1; obtain ⟨A2, c2, ev, hc2, hr2⟩ := HO2.out.reads; subst ev; have HC2 := Aside0.mk hc2; have HR2 := Aside0.mk hr2; clear hc2 hr2) | (go_at_call 11; ((with_reducible refine (Sum_calls A2 c2 y _ HR2.out HC2.out (HT.out.below HB2.out)).mono ?_)); rintro e w' ⟨rfl, ⟨nd, rfl⟩⟩) | (go_at_call 22; go_in))
  go_loopw [7, 8, 31] (fun v s i w' => ∃ k : Nat, k ≤ 4 ∧ i = .int .i64 k ∧ s = .int .u32 (crc y / 256 ^ k) ∧ Aside0 (Own .u8 5 w' w.heap.size v (y ++ sumBytes (crc y) k)) ∧ Aside0 (Below w.heap.size w w')) (fun _ _ i _ => 4 - (intOf i).toNat)
  case atStart => exact ⟨0, by omega, rfl, by simp, ⟨by have := HO2.out.below (pw_below_drewN (Below.refl _ w2) nd); simpa [sumBytes] using this⟩, ⟨pw_below_drewN HB2.out _⟩⟩
  case round =>
    obtain ⟨k, hk, rfl, rfl, HO, HB⟩ := hrel
    generalize hz : crc y / 256 ^ k = z
    generalize hys : y ++ sumBytes (crc y) k = ys at HO
    have HZ := Aside0.mk hz
    have HYS := Aside0.mk hys
    clear hz hys
    have hyl3 : ys.length ≤ 5000 := by
      have e1 : ys.length = y.length + k := by rw [← HYS.out]; simp [sumBytes]
      have e2 : y.length = 4 + l1.length := by rw [HY.out]; simp [hdr]; omega
      omega
    by_cases hlt : k < 4
    · go_wp2_with (first | ((with_reducible refine gate_dst (N := 37) rfl ?_); (refine app1_event (w0 := w) w.heap.size rfl (N := 37) rfl .u8 _ _ 22 5 (.int .u8 0) 1 rfl Tryd.underlying22 info5 rfl (by omega) u7 ys (z % 256) rfl rfl HO.out HB.out HB.out.size ?hl ?_); (case hl => omega); intro v3 w3 ho3 hb3 hg3; have HO3 := Aside0.mk ho3; have HB3 := Aside0.mk hb3; clear ho3 hb3 hg3))
      go_roundw
      case rel => exact ⟨k + 1, by omega, by go_num, by rw [← HZ.out]; exact ret_u32 (div_pow256 _ _), ⟨by rw [sumBytes_succ, ← List.append_assoc, HYS.out, HZ.out]; exact HO3.out⟩, HB3⟩
      case measure => simp [intOf]; omega
    · obtain ⟨A7, c7, e7, hc7, hr7⟩ := HO.out.reads
      subst e7
      have HR7 := Aside0.mk hr7
      have HC7 := Aside0.mk hc7
      clear hc7 hr7
      have hfin : ys = frame l1 := by
        have hk4 : k = 4 := by omega
        subst hk4
        rw [← HYS.out, HY.out]; rfl
      have HF := Aside0.mk hfin
      clear hfin
      go_wp2_with (first | ((with_reducible refine gate_dst (N := 41) rfl ?_); refine lit_event (w0 := wr) wr.heap.size rfl (N := 41) rfl .u8 5 [] ?hr (Below.refl _ _) (Nat.le_refl _) (by simp) ?_; (case hr => first | (go_simp; done) | (go_simp; rfl) | (go_simp; exact ⟨rfl, rfl⟩)); intro v4 w4 ho4 hb4 _; have HO4 := Aside0.mk ho4; have HB4 := Aside0.mk hb4; clear ho4 hb4) | ((with_reducible refine gate_dst (N := 43) rfl ?_); refine appN_event (w0 := wr) wr.heap.size rfl (N := 43) rfl .u8 _ _ 22 5 (.int .u8 0) 1 rfl Tryd.underlying22 info5 rfl (by omega) v4 [] l0 A0 l0.length c0 rfl rfl HO4.out (Kd.C_below (Kd.C_below HR0.out HB.out) HB4.out) HB4.out HB4.out.size (by simp; omega) ?_; intro v5 w5 ho5 hb5 hg5; rw [List.nil_append] at ho5; have HO5 := Aside0.mk ho5; have HB5 := Aside0.mk hb5; clear ho5 hb5 hg5 HO4 HB4) | ((with_reducible refine gate_dst (N := 45) rfl ?_); refine appN_event (w0 := wr) wr.heap.size rfl (N := 45) rfl .u8 _ _ 22 5 (.int .u8 0) 1 rfl Tryd.underlying22 info5 rfl (by omega) v5 l0 ys A7 ys.length c7 rfl rfl HO5.out (Kd.C_below HR7.out HB5.out) HB5.out HB5.out.size (by omega) ?_; intro v6 w6 ho6 hb6 hg6; have HO6 := Aside0.mk ho6; have HB6 := Aside0.mk hb6; clear ho6 hb6 hg6))
      go_ret2
      refine ⟨v6, by simp, ?_, below_then HB.out HB.out.size HB6.out⟩
      rw [← HF.out]
      exact HO6.out.lower HB.out.size
end Go.Proofs.YtafajpjonmnjbaaDoor.Fr
