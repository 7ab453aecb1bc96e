/- FrameGets, walked. -/
import Derived.Test.YtafajpjonmnjbaaDoorLGetsA
import Derived.Deep.RegionHeld3
namespace Go.Proofs.YtafajpjonmnjbaaDoor.Fr
open Go.RowKit Go.Proofs.YtafajpjonmnjbaaDoorW.PrintWords Go.Proofs.YtafajpjonmnjbaaDoorW.PrintLast Go.Proofs.YtafajpjonmnjbaaDoorW.PrintMore Go.Proofs.YtafajpjonmnjbaaDoor.Kit Go.Proofs.YtafajpjonmnjbaaDoor.PFrameGets
set_option linter.unusedVariables false
set_option linter.unusedSimpArgs false
theorem getS_len (b : List Int) : (getS b).1.length ≤ b.length := by
  by_cases h : (getS b).2.2 = 0
  · have := getS_ok h
    rw [this.2.2.2.2.1]; simp; omega
  · rw [(getS_no h).1]; simp
theorem scanS_each (k : Nat) : ∀ b : List Int, b.length ≤ k → ∀ x ∈ (scanS b).1, x.length ≤ b.length := by
  induction k with
  | zero =>
    intro b hb x hx
    have hb : b = [] := List.eq_nil_of_length_eq_zero (by omega)
    subst hb
    have : (scanS []).1 = [] := by decide
    rw [this] at hx
    simp at hx
  | succ k ih =>
    intro b hb x hx
    by_cases e : (getS b).2.2 = 0
    · have hg := getS_ok e
      rw [scanS_ok e] at hx
      rcases List.mem_cons.1 hx with rfl | hx
      · exact getS_len b
      · have := ih (b.drop (getN b)) (by simp; omega) x hx
        simp at this
        omega
    · rw [scanS_no e] at hx
      simp at hx
set_option maxHeartbeats 4000000 in
set_option maxRecDepth 100000 in
theorem law_gets (A0 : Option Addr) (c0 : Nat) (l0 : List Int) (w : World) (hr0 : Kd.C (Kd.int .u8) w A0 l0.length l0) (hc0 : l0.length ≤ c0) (hT : Steps w) (hb : Bytes l0) :
    Calls Tryd.prog 5 #[.slice A0 l0.length c0] w (TruePost w) := by
  have HR0 := Aside0.mk hr0
  have HT := Aside0.mk hT
  have HBY := Aside0.mk hb
  have hm := Kd.C_max hr0
  clear hr0 hT hb
  by_cases hl : 4500 < l0.length
  · go_enter Tryd.func5, Tryd.ntmps5
    go_wp2_with (go_at_call 9; (with_reducible refine (awake_calls _ HT.out).mono ?_); rintro e w1 ⟨rfl, hb1⟩; have HB1 := Aside0.mk hb1; clear hb1)
    go_ret
    exact ⟨rfl, HB1.out⟩
  · have hpl := getS_len l0
    have hle := scanS_le l0.length l0 (Nat.le_refl _)
    have HEACH := Aside0.mk (scanS_each l0.length l0 (Nat.le_refl _))
    obtain ⟨G, hGe⟩ : ∃ G, G = getS l0 := ⟨_, rfl⟩
    obtain ⟨S, hSe⟩ : ∃ S, S = scanS l0 := ⟨_, rfl⟩
    rw [← hGe] at hpl
    rw [← hSe] at hle HEACH
    have HG := Aside0.mk hGe
    have HS := Aside0.mk hSe
    clear hGe hSe
    obtain ⟨p, n, er⟩ := G
    obtain ⟨xs, at_⟩ := S
    simp only at hpl hle HEACH
    go_enter Tryd.func5, Tryd.ntmps5
    go_wp2_with (first | (go_at_call 10; (with_reducible refine (own_calls A0 c0 l0 _ HR0.out (by omega)).mono ?_); rintro e w1 ⟨g1, rfl, hg1, hk1, hbel1⟩; have HK1 := Aside0.mk hk1; have HB1 := Aside0.mk hbel1; have HX := Aside0.mk (own_reads hk1 (by omega)); clear hg1 hk1 hbel1) | (go_at_call 17; (with_reducible refine (Get_calls (some ⟨g1, 0, none⟩) (l0.length + 16) l0 _ HX.out (by omega) HBY.out (HT.out.below HB1.out)).mono ?_); rw [← HG.out]; rintro e w2 ⟨v2, rfl, ho2, hb2⟩; obtain ⟨A2, c2, ev2, hc2, hr2⟩ := ho2.reads; subst ev2; have HR2 := Aside0.mk hr2; have HC2 := Aside0.mk hc2; have HB12 := Aside0.mk hb2; have HB2 := Aside0.mk (below_then HB1.out HB1.out.size hb2); clear ho2 hc2 hr2 hb2) | (go_at_call 18; (with_reducible refine (RGet_calls A0 c0 l0 _ (Kd.C_below HR0.out HB2.out) hc0 HBY.out).mono ?_); rw [← HG.out]; rintro e w3 ⟨A3, c3, rfl, hc3, hal3, hb3⟩; have HR3 := Aside0.mk (hal3 w HR0.out); have HC3 := Aside0.mk hc3; have HB23 := Aside0.mk hb3; have HB3 := Aside0.mk (below_then HB2.out HB2.out.size hb3); have HB13 := Aside0.mk (below_then HB12.out HB12.out.size hb3); clear hal3 hc3 hb3) | (go_at_call 19; (with_reducible refine (Scan_calls (some ⟨g1, 0, none⟩) (l0.length + 16) l0 _ (Kd.C_below HX.out HB13.out) (by omega) HBY.out (HT.out.below HB3.out) (by omega)).mono ?_); rw [← HS.out]; rintro e w4 ⟨v4, hs4, rfl, ho4, hp4, hb4⟩; have hl4 := hp4.1; obtain ⟨A4, c4, ev4, hc4, hh4⟩ := hrow_of_R ho4; subst ev4; rw [hl4]; have HH4 := Aside0.mk hh4; have HP4 := Aside0.mk hp4; have HB34 := Aside0.mk hb4; have HB4 := Aside0.mk (below_then HB3.out HB3.out.size hb4); clear ho4 hp4 hb4 hc4 hh4) | (go_at_call 20; (with_reducible refine (RScan_calls A0 c0 l0 w _ HB4.out HR0.out hc0 HBY.out (by omega)).mono ?_); rw [← HS.out]; rintro e w5 ⟨v5, hs5, rfl, ho5, hp5, hb5⟩; have hl5 := hp5.1; obtain ⟨A5, c5, ev5, hc5, hh5⟩ := hrow_of_R ho5; subst ev5; rw [hl5]; have HH5 := Aside0.mk hh5; have HP5 := Aside0.mk hp5; have HB45 := Aside0.mk hb5; have HB5 := Aside0.mk (below_then HB4.out HB4.out.size hb5); clear ho5 hp5 hb5 hc5 hh5) | (go_at_call 13; (with_reducible refine (same_calls A2 c2 p A3 c3 p _ (Kd.C_below HR2.out (below_then HB23.out HB23.out.size (below_then HB34.out HB34.out.size HB45.out))) HC2.out (Kd.C_below HR3.out HB5.out) HC3.out (by omega)).mono ?_); rintro e w6 ⟨rfl, ⟨m6, rfl⟩⟩; rw [decide_eq_true (rfl : p = p)]))
    obtain ⟨hl4', gs, hgl, hga, hgp⟩ := HP4.out
    have hl5' := HP5.out.1
    have HGP := Aside0.mk hgp
    have HGA := Aside0.mk hga
    clear hgp hga
    have HG5 : Aside0 (∀ (j g : Nat), gs[j]? = some g → ∃ (h : Hd) (x : List Int), hs4[j]? = some h ∧ xs[j]? = some x ∧ w3.heap.size ≤ g ∧ g < w5.heap.size ∧ PayAt w5 g h x) := ⟨fun j g hg => by
      have hj : j < gs.length := (List.getElem?_eq_some_iff.1 hg).1
      have e1 : hs4[j]? = some (hs4[j]'(by omega)) := List.getElem?_eq_getElem _
      have e2 : xs[j]? = some (xs[j]'(by omega)) := List.getElem?_eq_getElem _
      obtain ⟨h1, h2, h3⟩ := HGA.out j _ _ g e1 e2 hg
      exact ⟨_, _, e1, e2, h1, Nat.lt_of_lt_of_le h2 HB45.out.size, h3.keep (HB45.out.block g h2)⟩⟩
    have HTY : Aside0 (∀ (j g : Nat), gs[j]? = some g → ∃ cur : Array Value, w5.heap[g]? = some (.cells cur 5 (0, 0))) := ⟨fun j g hg => by
      obtain ⟨h, x, _, _, _, _, h3⟩ := HG5.out j g hg
      obtain ⟨cur, hb, _⟩ := h3.blk
      exact ⟨cur, hb⟩⟩
    have HHa := Aside0.mk (HH4.out.below HB45.out)
    have HBB : Aside0 (∀ (k : Nat) (W : World), Turned gs k w5 W → Below w.heap.size w W) := ⟨fun k W hW => HB5.out.trans ⟨hW.os, hW.tape, hW.output, hW.size, fun q hq => hW.block q (by have := HB5.out.size; omega) fun j _ e => by
      obtain ⟨_, _, _, _, h4, _⟩ := HG5.out j q e
      have := HB3.out.size
      omega⟩⟩
    have HXK : Aside0 (∀ (k : Nat) (W : World), Turned gs k w5 W → W.heap[g1]? = some (.cells (nums .u8 l0 ++ List.replicate 16 (Value.int .u8 0)).toArray 5 (0, 0))) := ⟨fun k W hW => by
      have h1 := blk_below HK1.out (below_then HB13.out HB13.out.size (below_then HB34.out HB34.out.size HB45.out))
      have h2 := blk_lt HK1.out
      rw [hW.block g1 (blk_lt h1) fun j _ e => ?_]
      · exact h1
      · obtain ⟨_, _, _, _, h4, _⟩ := HG5.out j g1 e
        have := HB13.out.size
        omega⟩
    go_loopw [72] (fun i wr => ∃ k : Nat, k ≤ xs.length ∧ i = .int .i64 k ∧ Aside0 (Turned gs k w5 wr)) (fun i _ => xs.length - (intOf i).toNat)
    case atStart => exact ⟨0, by omega, rfl, ⟨(Turned.refl gs w5).below (by repeat (first | exact Below.refl _ _ | apply pw_below_drewN | apply below_drew1))⟩⟩
    case round =>
      obtain ⟨k, hk, rfl, HW⟩ := hrel
      by_cases hlt : k < xs.length
      · obtain ⟨g, hg⟩ : ∃ g, gs[k]? = some g := ⟨_, List.getElem?_eq_getElem (by omega)⟩
        obtain ⟨⟨Ah, lh, ch⟩, x, e1, e2, hg3, hgl5, hpay⟩ := HG5.out k g hg
        obtain ⟨⟨Aq, lq, cq⟩, e3⟩ : ∃ h : Hd, hs5[k]? = some h := ⟨_, List.getElem?_eq_getElem (by omega)⟩
        obtain ⟨hq1, hq2, hq3⟩ := HP5.out.2 k _ x e3 e2
        have hxl : x.length ≤ 4500 := by have := HEACH.out x (List.mem_of_getElem? e2); omega
        have d1 := hpay.hd
        have d2 := hpay.len
        have d3 := hpay.le
        simp only at d1 d2 d3 hq1 hq2 hq3
        subst d1; subst d2; subst hq1
        have HPW := Aside0.mk (hpay.keep (HW.out.at_ HGP.out (Nat.le_refl k) hg hgl5))
        have HQ3 := Aside0.mk hq3
        have HGK := Aside0.mk hg
        obtain ⟨ad4, e4, x4⟩ := (HHa.out.turned HW.out HTY.out).cell e1
        have HE1 := Aside0.mk e1
        obtain ⟨ad5, e5, x5⟩ := (HH5.out.turned HW.out HTY.out).cell e3
        cases e4
        cases e5
        simp only at x4 x5
        clear hg e1 e2 e3 hpay hq3 hg3 hgl5
        have j1 : (k : Int) < (xs.length : Int) := by omega
        go_wp2
        go_region_held3 (fun w' => w'.cell? (ad4.add k) = some (.slice (some ⟨g, 0, none⟩) x.length ch) ∧ w'.cell? (ad5.add k) = some (.slice Aq x.length cq)) (go_keep) (first | (go_at_call 13; (with_reducible refine (same_calls (some ⟨g, 0, none⟩) ch x Aq cq x _ ?hA d3 ?hB hq2 (by omega)).mono ?_); (case hA => (repeat (first | (with_reducible refine Kd.C_drewN ?_ _) | (with_reducible refine Kd.C_drew ?_))); exact HPW.out.C (by omega)); (case hB => (repeat (first | (with_reducible refine Kd.C_drewN ?_ _) | (with_reducible refine Kd.C_drew ?_))); exact Kd.C_below HQ3.out (HBB.out k _ HW.out)); rintro e w7 ⟨rfl, ⟨m7, rfl⟩⟩; rw [decide_eq_true (rfl : x = x)]))
        go_wp2
        clear x4 x5
        go_loopw [90] (fun i wq => ∃ j : Nat, j ≤ x.length ∧ i = .int .i64 j ∧ Aside0 (Turned gs (k + 1) w5 wq) ∧ Aside0 (ByteBlk wq g x.length)) (fun i _ => x.length - (intOf i).toNat)
        case atStart => exact ⟨0, by omega, rfl, ⟨HW.out.next.below (by repeat (first | exact Below.refl _ _ | apply pw_below_drewN | apply below_drew1))⟩, ⟨HPW.out.bytes.below (by repeat (first | exact Below.refl _ _ | apply pw_below_drewN | apply below_drew1))⟩⟩
        case round =>
          obtain ⟨j, hj, rfl, HW2, HBK⟩ := hrel
          by_cases hjl : j < x.length
          · obtain ⟨_, e4, x4⟩ := (HHa.out.turned HW2.out HTY.out).cell HE1.out
            cases e4
            obtain ⟨z, xz, xf⟩ := HBK.out.cell j hjl
            have j2 : (k : Int) < (xs.length : Int) := by omega
            have j3 : (j : Int) < (x.length : Int) := by omega
            go_wp2
            exact ⟨⟨j + 1, by omega, by go_num, ⟨HW2.out.set HGK.out j _⟩, ⟨HBK.out.set j _⟩⟩, by simp [intOf]; omega⟩
          · go_wp2
            go_roundw
            case rel => exact ⟨k + 1, by omega, by go_num, ⟨HW2.out.below (by repeat (first | exact Below.refl _ _ | apply pw_below_drewN | apply below_drew1))⟩⟩
            case measure => simp [intOf]; omega
      · go_wp2_with (first | (go_at_call 13; (with_reducible refine (same_calls (some ⟨g1, 0, none⟩) (l0.length + 16) l0 A0 c0 l0 _ ?hA (by omega) ?hB hc0 (by omega)).mono ?_); (case hA => (repeat (first | (with_reducible refine Kd.C_drewN ?_ _) | (with_reducible refine Kd.C_drew ?_))); exact own_reads (HXK.out k _ HW.out) (by omega)); (case hB => (repeat (first | (with_reducible refine Kd.C_drewN ?_ _) | (with_reducible refine Kd.C_drew ?_))); exact Kd.C_below HR0.out (HBB.out k _ HW.out)); rintro e w8 ⟨rfl, ⟨m8, rfl⟩⟩; rw [decide_eq_true (rfl : l0 = l0)]) | (go_at_call 9; (with_reducible refine (awake_calls _ (HT.out.below (pw_below_drewN (HBB.out k _ HW.out) _))).mono ?_); rintro e w9 ⟨rfl, hb9⟩; have HB9 := Aside0.mk (below_then (pw_below_drewN (HBB.out k _ HW.out) _) (pw_below_drewN (HBB.out k _ HW.out) _).size hb9); clear hb9))
        go_ret
        exact ⟨rfl, HB9.out⟩
end Go.Proofs.YtafajpjonmnjbaaDoor.Fr
