/- FrameRows, walked. -/
import Derived.Test.YtafajpjonmnjbaaDoorLCut
import Derived.Test.YtafajpjonmnjbaaDoorLGets
namespace Go.Proofs.YtafajpjonmnjbaaDoor.Fr
open Go.RowKit Go.Proofs.YtafajpjonmnjbaaDoorW.PrintWords Go.Proofs.YtafajpjonmnjbaaDoorW.PrintLast Go.Proofs.YtafajpjonmnjbaaDoorW.PrintMore Go.Proofs.YtafajpjonmnjbaaDoor.Kit Go.Proofs.YtafajpjonmnjbaaDoor.PFrameGets
set_option linter.unusedVariables false
set_option linter.unusedSimpArgs false
theorem pays_als {w : World} {base : Nat} {hs : List Hd} {xs : List (List Int)} (h : Pays w base hs xs) (hm : ∀ x ∈ xs, x.length ≤ 9223372036854775807) : Als w hs xs := by
  obtain ⟨hl, gs, hgl, ha, _⟩ := h
  refine ⟨hl, fun i hd x e1 e2 => ?_⟩
  have hi : i < xs.length := (List.getElem?_eq_some_iff.1 e2).1
  obtain ⟨_, _, h3⟩ := ha i hd x (gs[i]'(by omega)) e1 e2 (List.getElem?_eq_getElem _)
  have := h3.C (hm x (List.mem_of_getElem? e2))
  rw [← h3.hd] at this
  exact ⟨h3.len, h3.le, this⟩
/-- What Scan tells, read. -/
def ScanRead (r : List (List Int) × Nat) (w : World) (e : Ending) (w' : World) : Prop :=
  ∃ A c hs, e = .returned (.tuple #[.slice A r.1.length c, .int .i64 (r.2 : Int)]) ∧ HRow w' A hs ∧ Als w' hs r.1 ∧ Below w.heap.size w w'
theorem scan_read (A0 : Option Addr) (c0 : Nat) (l0 : List Int) (w : World) (hr0 : Kd.C (Kd.int .u8) w A0 l0.length l0) (hc0 : l0.length ≤ c0) (hy : Bytes l0) (hT : Steps w) (hl : l0.length ≤ 1000000) :
    Calls Tryd.prog 19 #[.slice A0 l0.length c0] w (ScanRead (scanS l0) w) :=
  (Scan_calls A0 c0 l0 w hr0 hc0 hy hT hl).mono fun e w' h => by
    obtain ⟨v, hs, rfl, ho, hp, hb⟩ := h
    have hl' := hp.1
    obtain ⟨A, c, rfl, hc, hh⟩ := hrow_of_R ho
    exact ⟨A, c, hs, by rw [hl'], hh, pays_als hp (fun x hx => by have := scanS_each l0.length l0 (Nat.le_refl _) x hx; omega), hb⟩
/-- How many the reference's Scan tells, and up to where. -/
def ScanLen (r : List (List Int) × Nat) (w : World) (e : Ending) (w' : World) : Prop :=
  ∃ A c, e = .returned (.tuple #[.slice A r.1.length c, .int .i64 (r.2 : Int)]) ∧ Below w.heap.size w w'
theorem ref_scan_len (A0 : Option Addr) (c0 : Nat) (l0 : List Int) (w : World) (hr0 : Kd.C (Kd.int .u8) w A0 l0.length l0) (hc0 : l0.length ≤ c0) (hy : Bytes l0) (hl : l0.length ≤ 1000000) :
    Calls Tryd.prog 20 #[.slice A0 l0.length c0] w (ScanLen (scanS l0) w) :=
  (RScan_calls A0 c0 l0 w w (Below.refl _ _) hr0 hc0 hy hl).mono fun e w' h => by
    obtain ⟨v, hs, rfl, ho, hp, hb⟩ := h
    have hl' := hp.1
    obtain ⟨A, c, rfl⟩ := Kd.R_slice ho
    exact ⟨A, c, by rw [hl'], hb⟩
set_option maxHeartbeats 4000000 in
set_option maxRecDepth 100000 in
theorem law_rows (A0 A1 : Option Addr) (c0 c1 : Nat) (hs : List Hd) (xs : List (List Int)) (l1 : List Int) (w : World) (hR : RowsAt w A0 hs xs) (hr1 : Kd.C (Kd.int .u8) w A1 l1.length l1) (hc1 : l1.length ≤ c1) (hT : Steps w) (hy1 : Bytes l1) :
    Calls Tryd.prog 6 #[.slice A0 xs.length c0, .slice A1 l1.length c1] w (TruePost w) := by
  have HR := Aside0.mk hR
  have HT := Aside0.mk hT
  have HR1 := Aside0.mk hr1
  have HY1 := Aside0.mk hy1
  have hm := hR.most
  have hm1 := Kd.C_max hr1
  have hl := hR.als.1
  clear hR hT hr1 hy1
  rcases hS : rowS xs with _ | b
  · have HS := Aside0.mk hS
    clear hS
    go_enter Tryd.func6, Tryd.ntmps6
    go_wp2_with (first | (go_at_call 21; (with_reducible refine (row_no A0 c0 hs xs _ HR.out HT.out HS.out).mono ?_); rintro e w1 ⟨v1, rfl, hb1⟩; have HB1 := Aside0.mk hb1; clear hb1) | (go_at_call 9; (with_reducible refine (awake_calls _ (HT.out.below HB1.out)).mono ?_); rintro e w2 ⟨rfl, hb2⟩; have HB2 := Aside0.mk (below_then HB1.out HB1.out.size hb2); clear hb2))
    go_ret
    exact ⟨rfl, HB2.out⟩
  · have HS := Aside0.mk hS
    obtain ⟨hbe, hbl, hfit, hx20⟩ := rowS_some hS
    by_cases hl1 : 4500 < l1.length
    · have d1 : decide (4500 < (l1.length : Int)) = true := decide_eq_true (by omega)
      clear hS hbe hfit
      go_enter Tryd.func6, Tryd.ntmps6
      go_wp2_with (first | (go_at_call 21; (with_reducible refine (row_yes A0 c0 hs xs _ HR.out HT.out HS.out).mono ?_); rintro e w1 ⟨A2, c2, rfl, hc2, hr2, hb1⟩; have HB1 := Aside0.mk hb1; clear hb1 hr2) | (go_at_call 9; (with_reducible refine (awake_calls _ (HT.out.below HB1.out)).mono ?_); rintro e w2 ⟨rfl, hb2⟩; have HB2 := Aside0.mk (below_then HB1.out HB1.out.size hb2); clear hb2))
      go_ret
      exact ⟨rfl, HB2.out⟩
    · have d1 : decide (4500 < (l1.length : Int)) = false := decide_eq_false (by omega)
      have hyb : Bytes b := by rw [hbe]; exact rows_bytes xs HR.out.bytes hfit
      have hs1 : scanS b = (xs, b.length) := by
        have := scan_rows xs [] hfit
        rw [List.append_nil, ← hbe, scan_nil] at this
        simpa using this
      have hs2 : scanS (b ++ l1) = (xs ++ (scanS l1).1, b.length + (scanS l1).2) := by
        have := scan_rows xs l1 hfit
        rw [← hbe] at this
        exact this
      obtain ⟨S, hSe⟩ : ∃ S, S = scanS l1 := ⟨_, rfl⟩
      rw [← hSe] at hs2
      obtain ⟨rs, fin⟩ := S
      simp only at hs2
      have hle := scanS_le l1.length l1 (Nat.le_refl _)
      rw [← hSe] at hle
      simp only at hle
      obtain ⟨F, hF⟩ : ∃ F, F = b ++ l1 := ⟨_, rfl⟩
      have hFl : F.length = b.length + l1.length := by rw [hF]; simp
      have hFy : Bytes F := by rw [hF]; exact hyb.append HY1.out
      rw [← hF] at hs2
      have HSE := Aside0.mk hSe
      have HS1 := Aside0.mk hs1
      have HS2 := Aside0.mk hs2
      have HYB := Aside0.mk hyb
      have HF := Aside0.mk hF
      have HFL := Aside0.mk hFl
      have HFY := Aside0.mk hFy
      have HFIT := Aside0.mk hfit
      have hxr : (xs ++ rs).length = xs.length + rs.length := by simp
      have HXR := Aside0.mk hxr
      clear hS hbe hfit hs1 hs2 hSe hF hFl hFy hyb hxr
      go_enter Tryd.func6, Tryd.ntmps6
      go_wp2_with (first | (go_at_call 21; (with_reducible refine (row_yes A0 c0 hs xs _ HR.out HT.out HS.out).mono ?_); rintro e w1 ⟨A2, c2, rfl, hc2, hr2, hb1⟩; have HRB := Aside0.mk hr2; have HB1 := Aside0.mk hb1; clear hb1 hr2) | (go_at_call 19; (with_reducible refine (scan_read A2 c2 b _ HRB.out hc2 HYB.out (HT.out.below HB1.out) (by omega)).mono ?_); rw [HS1.out]; rintro e w3 ⟨A3, c3, hs3, rfl, hh3, ha3, hb3⟩; have HH3 := Aside0.mk hh3; have HA3 := Aside0.mk ha3; have HB13 := Aside0.mk hb3; have HB3 := Aside0.mk (below_then HB1.out HB1.out.size hb3); clear hh3 ha3 hb3) | (go_at_call 10; (with_reducible refine (own_calls A2 c2 b _ (Kd.C_below HRB.out HB13.out) (by omega)).mono ?_); rintro e w4 ⟨g4, rfl, hg4, hk4, hb4⟩; have HO4 := Aside0.mk (own_of_block (base := w3.heap.size) (cap := b.length + 16) hk4 hg4 rfl (by simp) (by unfold maxLen; omega)); have HB34 := Aside0.mk hb4; have HB4 := Aside0.mk (below_then HB3.out HB3.out.size hb4); clear hg4 hk4 hb4) | ((with_reducible refine gate_dst (N := 36) rfl ?_); refine appN_event (w0 := w3) w3.heap.size rfl (N := 36) rfl .u8 _ _ 22 5 (.int .u8 0) 1 rfl Tryd.underlying22 info5 rfl (by omega) (.slice (some ⟨g4, 0, none⟩) b.length (b.length + 16)) b l1 A1 l1.length c1 rfl rfl HO4.out (Kd.C_below HR1.out HB4.out) HB34.out HB34.out.size ?hl ?_; (case hl => omega); intro v5 w5 ho5 hb5 hg5; rw [← HF.out] at ho5; obtain ⟨A5, c5, ev5, hc5, hr5⟩ := ho5.reads; subst ev5; have HR5 := Aside0.mk hr5; have HC5 := Aside0.mk hc5; have HB35 := Aside0.mk hb5; have HB5 := Aside0.mk (below_then HB3.out HB3.out.size hb5); clear ho5 hb5 hc5 hr5 hg5) | (go_at_call 19; (with_reducible refine (scan_read A5 c5 F _ HR5.out HC5.out HFY.out (HT.out.below HB5.out) (by have := HFL.out; omega)).mono ?_); rw [HS2.out]; rintro e w6 ⟨A6, c6, hs6, rfl, hh6, ha6, hb6⟩; rw [HXR.out]; have HH6 := Aside0.mk hh6; have HA6 := Aside0.mk ha6; have HB36 := Aside0.mk (below_then HB35.out HB35.out.size hb6); have HB6 := Aside0.mk (below_then HB5.out HB5.out.size hb6); clear hh6 ha6 hb6) | (go_at_call 20; (with_reducible refine (ref_scan_len A1 c1 l1 _ (Kd.C_below HR1.out HB6.out) hc1 HY1.out (by omega)).mono ?_); rw [← HSE.out]; rintro e w7 ⟨A7, c7, rfl, hb7⟩; have HB67 := Aside0.mk hb7; have HB7 := Aside0.mk (below_then HB6.out HB6.out.size hb7); have HB37 := Aside0.mk (below_then HB36.out HB36.out.size hb7); clear hb7))
      go_loopw [76] (fun i wr => ∃ k : Nat, k ≤ xs.length ∧ i = .int .i64 k ∧ Aside0 (Below w7.heap.size w7 wr)) (fun i _ => xs.length - (intOf i).toNat)
      case atStart => exact ⟨0, by omega, rfl, ⟨by repeat (first | exact Below.refl _ _ | apply pw_below_drewN | apply below_drew1)⟩⟩
      case round =>
        obtain ⟨k, hk, rfl, HW⟩ := hrel
        by_cases hlt : k < xs.length
        · obtain ⟨x, e2⟩ : ∃ x, xs[k]? = some x := ⟨_, List.getElem?_eq_getElem (by omega)⟩
          have e6 : (xs ++ rs)[k]? = some x := by rw [List.getElem?_append_left hlt]; exact e2
          have hl3 := HA3.out.1
          have hl6 := HA6.out.1
          obtain ⟨⟨Ah, lh, ch⟩, eh⟩ : ∃ h : Hd, hs[k]? = some h := ⟨_, List.getElem?_eq_getElem (by omega)⟩
          obtain ⟨⟨Ai, li, ci⟩, ei⟩ : ∃ h : Hd, hs3[k]? = some h := ⟨_, List.getElem?_eq_getElem (by omega)⟩
          obtain ⟨⟨Aj, lj, cj⟩, ej⟩ : ∃ h : Hd, hs6[k]? = some h := ⟨_, List.getElem?_eq_getElem (by rw [hl6]; simp; omega)⟩
          obtain ⟨hq1, hq2, hq3⟩ := HR.out.als.2 k _ x eh e2
          obtain ⟨hi1, hi2, hi3⟩ := HA3.out.2 k _ x ei e2
          obtain ⟨hj1, hj2, hj3⟩ := HA6.out.2 k _ x ej e6
          simp only at hq1 hq2 hq3 hi1 hi2 hi3 hj1 hj2 hj3
          subst hq1
          subst hi1
          subst hj1
          have hxm := (HFIT.out x (List.mem_of_getElem? e2)).2
          have hbw := below_then HB7.out HB7.out.size HW.out
          obtain ⟨ad0, e0, x0⟩ := HR.out.cells k _ eh
          cases e0
          have x0 := cell_below x0 hbw
          obtain ⟨ad3, e3, x3⟩ := (HH3.out.below (below_then HB37.out HB37.out.size HW.out)).cell ei
          cases e3
          obtain ⟨ad6, e6', x6⟩ := (HH6.out.below (below_then HB67.out HB67.out.size HW.out)).cell ej
          cases e6'
          simp only at x0 x3 x6
          have HQ := Aside0.mk (Kd.C_below hq3 hbw)
          have HI := Aside0.mk (Kd.C_below hi3 (below_then HB37.out HB37.out.size HW.out))
          have HJ := Aside0.mk (Kd.C_below hj3 (below_then HB67.out HB67.out.size HW.out))
          clear hq3 hi3 hj3 eh ei ej e2 e6 hbw hl3 hl6
          have j1 : (k : Int) < (xs.length : Int) := by omega
          have j2 : (k : Int) < (xs.length : Int) + (rs.length : Int) := by omega
          go_wp2
          go_region_held3 (fun w' => w'.cell? (ad3.add k) = some (.slice Ai x.length ci) ∧ w'.cell? (ad0.add k) = some (.slice Ah x.length ch) ∧ w'.cell? (ad6.add k) = some (.slice Aj x.length cj)) (go_keep) (first | (go_at_call 13; (with_reducible refine (same_calls Ai ci x Ah ch x _ ?hA hi2 ?hB hq2 (by omega)).mono ?_); (case hA => (repeat (first | (with_reducible refine Kd.C_drewN ?_ _) | (with_reducible refine Kd.C_drew ?_))); exact HI.out); (case hB => (repeat (first | (with_reducible refine Kd.C_drewN ?_ _) | (with_reducible refine Kd.C_drew ?_))); exact HQ.out); rintro e w8 ⟨rfl, ⟨m8, rfl⟩⟩; rw [decide_eq_true (rfl : x = x)]) | (go_at_call 13; (with_reducible refine (same_calls Aj cj x Ah ch x _ ?hC hj2 ?hD hq2 (by omega)).mono ?_); (case hC => (repeat (first | (with_reducible refine Kd.C_drewN ?_ _) | (with_reducible refine Kd.C_drew ?_))); exact HJ.out); (case hD => (repeat (first | (with_reducible refine Kd.C_drewN ?_ _) | (with_reducible refine Kd.C_drew ?_))); exact HQ.out); rintro e w9 ⟨rfl, ⟨m9, rfl⟩⟩; rw [decide_eq_true (rfl : x = x)]))
          go_wp2
          go_roundw
          case rel => exact ⟨k + 1, by omega, by go_num, ⟨by repeat (first | exact HW.out | apply pw_below_drewN | apply below_drew1)⟩⟩
          case measure => simp [intOf]; omega
        · go_wp2_with (go_at_call 9; (with_reducible refine (awake_calls _ (HT.out.below (below_then HB7.out HB7.out.size HW.out))).mono ?_); rintro e w9 ⟨rfl, hb9⟩; have HB9 := Aside0.mk (below_then (below_then HB7.out HB7.out.size HW.out) (below_then HB7.out HB7.out.size HW.out).size hb9); clear hb9)
          go_ret
          exact ⟨rfl, HB9.out⟩
end Go.Proofs.YtafajpjonmnjbaaDoor.Fr
