/- FrameCut, walked. -/
import Derived.Test.YtafajpjonmnjbaaDoorLTurn
namespace Go.Proofs.YtafajpjonmnjbaaDoor.Fr
open Go.RowKit Go.Proofs.YtafajpjonmnjbaaDoorW.PrintWords Go.Proofs.YtafajpjonmnjbaaDoorW.PrintLast Go.Proofs.YtafajpjonmnjbaaDoorW.PrintMore Go.Proofs.YtafajpjonmnjbaaDoor.Kit Go.Proofs.YtafajpjonmnjbaaDoor.PFrameGets
set_option linter.unusedVariables false
set_option linter.unusedSimpArgs false
theorem upto_cons (p : List Int) (ps : List (List Int)) (k : Nat) : upto (p :: ps) k = if k < p.length + 8 then (0, 0) else ((upto ps (k - (p.length + 8))).1 + 1, (upto ps (k - (p.length + 8))).2 + (p.length + 8)) := rfl
def RowNo (w : World) (e : Ending) (w' : World) : Prop := ∃ v, e = .returned (.tuple #[v, .bool false]) ∧ Below w.heap.size w w'
def RowYes (b : List Int) (w : World) (e : Ending) (w' : World) : Prop := ∃ A c, e = .returned (.tuple #[.slice A b.length c, .bool true]) ∧ b.length ≤ c ∧ Kd.C (Kd.int .u8) w' A b.length b ∧ Below w.heap.size w w'
theorem row_no (A0 : Option Addr) (c0 : Nat) (hs : List Hd) (xs : List (List Int)) (w : World) (hR : RowsAt w A0 hs xs) (hT : Steps w) (h : rowS xs = none) : Calls Tryd.prog 21 #[.slice A0 xs.length c0] w (RowNo w) :=
  (row_calls A0 c0 hs xs w hR hT).mono fun e w' hp => by
    obtain ⟨v, rfl, _, hb⟩ := hp
    exact ⟨v, by rw [h]; rfl, hb⟩
theorem row_yes (A0 : Option Addr) (c0 : Nat) (hs : List Hd) (xs : List (List Int)) (w : World) (hR : RowsAt w A0 hs xs) (hT : Steps w) {b : List Int} (h : rowS xs = some b) : Calls Tryd.prog 21 #[.slice A0 xs.length c0] w (RowYes b w) :=
  (row_calls A0 c0 hs xs w hR hT).mono fun e w' hp => by
    obtain ⟨v, rfl, ho, hb⟩ := hp
    obtain ⟨A, c, rfl, hc, hr⟩ := (ho b h).reads
    exact ⟨A, c, by rw [h]; rfl, hc, hr, hb⟩
set_option maxHeartbeats 4000000 in
set_option maxRecDepth 100000 in
theorem law_cut (A0 : Option Addr) (c0 : Nat) (hs : List Hd) (xs : List (List Int)) (at_ : Int) (w : World) (hR : RowsAt w A0 hs xs) (hT : Steps w) (ha : 0 ≤ at_ ∧ at_ < 65536) :
    Calls Tryd.prog 8 #[.slice A0 xs.length c0, .int .u16 at_] w (TruePost w) := by
  have HR := Aside0.mk hR
  have HT := Aside0.mk hT
  have hm := hR.most
  have hl := hR.als.1
  clear hR hT
  obtain ⟨ha0, ha1⟩ := ha
  rcases hS : rowS xs with _ | b
  · have HS := Aside0.mk hS
    clear hS
    go_enter Tryd.func8, Tryd.ntmps8
    go_wp2_with (first | (go_at_call 21; (with_reducible refine (row_no A0 c0 hs xs _ HR.out HT.out HS.out).mono ?_); rintro e w1 ⟨v1, rfl, hb1⟩; have HB1 := Aside0.mk hb1; clear hb1) | (go_at_call 9; (with_reducible refine (awake_calls _ (HT.out.below HB1.out)).mono ?_); rintro e w2 ⟨rfl, hb2⟩; have HB2 := Aside0.mk (below_then HB1.out HB1.out.size hb2); clear hb2))
    go_ret
    exact ⟨rfl, HB2.out⟩
  · have HS := Aside0.mk hS
    obtain ⟨hbe, hbl, hfit, hx20⟩ := rowS_some hS
    have HBE := Aside0.mk hbe
    have HFIT := Aside0.mk hfit
    have hby := HR.out.bytes
    have HYB := Aside0.mk (show Bytes b from by rw [hbe]; exact rows_bytes xs hby hfit)
    obtain ⟨k, hk⟩ : ∃ k : Nat, at_ % ((b.length : Int) + 1) = (k : Int) := ⟨(at_ % ((b.length : Int) + 1)).toNat, by have := Int.emod_nonneg at_ (show ((b.length : Int) + 1) ≠ 0 by omega); omega⟩
    have hkb : k ≤ b.length := by
      have := Int.emod_lt_of_pos at_ (show (0 : Int) < (b.length : Int) + 1 by omega)
      omega
    have hcut := scan_cut xs k hby hfit (by rw [← hbe]; exact hkb)
    rw [← hbe] at hcut
    obtain ⟨S, hSe⟩ : ∃ S, S = scanS (b.take k) := ⟨_, rfl⟩
    rw [← hSe] at hcut
    have HSE := Aside0.mk hSe
    clear hS hbe hfit hby hSe
    obtain ⟨ys, fin⟩ := S
    simp only at hcut
    obtain ⟨hc1', hc2'⟩ := hcut
    subst hc2'
    have ltk : (b.take k).length = k := by simp; omega
    have LTK := Aside0.mk ltk
    clear ltk
    go_enter Tryd.func8, Tryd.ntmps8
    go_wp2_with (first | (go_at_call 21; (with_reducible refine (row_yes A0 c0 hs xs _ HR.out HT.out HS.out).mono ?_); rintro e w1 ⟨A1, c1, rfl, hc1, hr1, hb1⟩; obtain ⟨A2, hsl, hr2⟩ := cut_h (P := Tryd.prog) Tryd.underlying22 elem22 sizeOf5 hr1 hc1 k (k : Int) rfl hkb; have HR2 := Aside0.mk hr2; have HB1 := Aside0.mk hb1; clear hb1 hr1 hr2) | (go_at_call 19; refine calls_of_args (args' := #[.slice A2 (b.take k).length c1]) (by rw [LTK.out]) ((Scan_calls A2 c1 (b.take k) _ (by rw [LTK.out]; exact HR2.out) (by rw [LTK.out]; omega) (fun x hx => HYB.out x (List.mem_of_mem_take hx)) (HT.out.below HB1.out) (by rw [LTK.out]; omega)).mono ?_); rw [← HSE.out]; rintro e w4 ⟨v4, hs4, rfl, ho4, hp4, hb4⟩; have hl4 := hp4.1; obtain ⟨A4, c4, ev4⟩ := Kd.R_slice ho4; subst ev4; rw [hl4, hc1']; have HB4 := Aside0.mk (below_then HB1.out HB1.out.size hb4); clear ho4 hp4 hb4 hl4))
    go_loopw [10, 11, 37] (fun vn ve vi wr => ∃ i n e : Nat, i ≤ xs.length ∧ n ≤ i ∧ vi = .int .i64 (i : Int) ∧ vn = .int .i64 (n : Int) ∧ ve = .int .i64 (e : Int) ∧ e ≤ k ∧ Aside0 ((upto xs k).1 = n + (upto (xs.drop i) (k - e)).1 ∧ (upto xs k).2 = e + (upto (xs.drop i) (k - e)).2) ∧ Aside0 (Below w.heap.size w wr)) (fun _ _ vi _ => xs.length - (intOf vi).toNat)
    case atStart => exact ⟨0, 0, 0, by omega, by omega, rfl, rfl, rfl, by omega, ⟨by simp⟩, ⟨by repeat (first | exact HB4.out | apply pw_below_drewN | apply below_drew1)⟩⟩
    case round =>
      obtain ⟨i, n, e, hi, hni, rfl, rfl, rfl, hek, HU, HB⟩ := hrel
      by_cases hlt : i < xs.length
      · obtain ⟨⟨Ah, lh, ch⟩, e1⟩ : ∃ h : Hd, hs[i]? = some h := ⟨_, List.getElem?_eq_getElem (by omega)⟩
        obtain ⟨x, e2⟩ : ∃ x, xs[i]? = some x := ⟨_, List.getElem?_eq_getElem (by omega)⟩
        obtain ⟨hq1, _, _⟩ := HR.out.als.2 i _ x e1 e2
        simp only at hq1
        subst hq1
        obtain ⟨ad0, e0, x0⟩ := HR.out.cells i _ e1
        cases e0
        have x0 := cell_below x0 HB.out
        simp only at x0
        have hxm := (HFIT.out x (List.mem_of_getElem? e2)).2
        have hdr : xs.drop i = x :: xs.drop (i + 1) := by
          obtain ⟨h1, h2⟩ := List.getElem?_eq_some_iff.1 e2
          rw [List.drop_eq_getElem_cons h1, h2]
        have hu := HU.out
        rw [hdr, upto_cons] at hu
        have j1 : (i : Int) < (xs.length : Int) := by omega
        clear e1 e2
        by_cases hbk : k < e + x.length + 8
        · rw [if_pos (by omega)] at hu
          have d1 : decide ((k : Int) < (e : Int) + (x.length : Int) + 8) = true := decide_eq_true (by omega)
          obtain ⟨hu1, hu2⟩ := hu
          simp only [Nat.add_zero] at hu1 hu2
          rw [hu1, hu2]
          go_wp2_with (go_at_call 9; (with_reducible refine (awake_calls _ (HT.out.below HB.out)).mono ?_); rintro e w9 ⟨rfl, hb9⟩; have HB9 := Aside0.mk (below_then HB.out HB.out.size hb9); clear hb9)
          go_ret
          exact ⟨rfl, HB9.out⟩
        · rw [if_neg (by omega)] at hu
          have d1 : decide ((k : Int) < (e : Int) + (x.length : Int) + 8) = false := decide_eq_false (by omega)
          go_wp2
          exact ⟨⟨i + 1, n + 1, e + (x.length + 8), by omega, by omega, by go_num, by go_num, by go_num, by omega, ⟨by
            have e3 : k - e - (x.length + 8) = k - (e + (x.length + 8)) := by omega
            rw [e3] at hu
            omega⟩, ⟨HB.out⟩⟩, by simp [intOf]; omega⟩
      · have hu := HU.out
        rw [List.drop_eq_nil_of_le (by omega)] at hu
        obtain ⟨hu1, hu2⟩ := hu
        simp only [upto, Nat.add_zero] at hu1 hu2
        rw [hu1, hu2]
        go_wp2_with (go_at_call 9; (with_reducible refine (awake_calls _ (HT.out.below HB.out)).mono ?_); rintro e w9 ⟨rfl, hb9⟩; have HB9 := Aside0.mk (below_then HB.out HB.out.size hb9); clear hb9)
        go_ret
        exact ⟨rfl, HB9.out⟩
theorem u16_of {n : Int} (h : (Lit.int .u16 n).wf = true) : 0 ≤ n ∧ n < 65536 := by
  simp only [Lit.wf, Bool.and_eq_true, decide_eq_true_eq] at h
  have e1 : IntKind.u16.min = 0 := rfl
  have e2 : IntKind.u16.max = 65535 := rfl
  omega
theorem u8_of {n : Int} (h : (Lit.int .u8 n).wf = true) : 0 ≤ n ∧ n < 256 := by
  simp only [Lit.wf, Bool.and_eq_true, decide_eq_true_eq] at h
  have e1 : IntKind.u8.min = 0 := rfl
  have e2 : IntKind.u8.max = 255 := rfl
  omega
end Go.Proofs.YtafajpjonmnjbaaDoor.Fr
