/- FrameTurned, walked. -/
import Derived.Test.YtafajpjonmnjbaaDoorLCut
namespace Go.Proofs.YtafajpjonmnjbaaDoor.Fr
open Go.RowKit Go.Proofs.YtafajpjonmnjbaaDoorW.PrintWords Go.Proofs.YtafajpjonmnjbaaDoorW.PrintLast Go.Proofs.YtafajpjonmnjbaaDoorW.PrintMore Go.Proofs.YtafajpjonmnjbaaDoor.Kit Go.Proofs.YtafajpjonmnjbaaDoor.PFrameGets
set_option linter.unusedVariables false
set_option linter.unusedSimpArgs false
theorem xor8_turn (x y : Int) (hx : 0 ≤ x ∧ x < 256) (hy : 0 ≤ y ∧ y < 256) (hn : y ≠ 0) : 0 ≤ Go.bits .xor .u8 x y ∧ Go.bits .xor .u8 x y < 256 ∧ Go.bits .xor .u8 x y ≠ x := by
  obtain ⟨a, rfl⟩ := Int.eq_ofNat_of_zero_le hx.1
  obtain ⟨c, rfl⟩ := Int.eq_ofNat_of_zero_le hy.1
  have ha : a < 256 := by omega
  have hc : c < 256 := by omega
  have e : Go.bits .xor .u8 (a : Int) (c : Int) = ((a ^^^ c : Nat) : Int) := by
    have h : a ^^^ c < 2 ^ 8 := Nat.xor_lt_two_pow ha hc
    have ha' : a % 2 ^ IntKind.u8.bits = a := Nat.mod_eq_of_lt ha
    have hb' : c % 2 ^ IntKind.u8.bits = c := Nat.mod_eq_of_lt hc
    simp only [Go.bits, BitVec.ofInt_natCast, BitVec.toNat_xor, BitVec.toNat_ofNat, ha', hb']
    rw [IntKind.wrap_u8]
    omega
  have hl : a ^^^ c < 2 ^ 8 := Nat.xor_lt_two_pow ha hc
  rw [e]
  refine ⟨by omega, by omega, fun h => ?_⟩
  have h1 : a ^^^ c = a := by omega
  have h2 : c = 0 := Crc.xor_cancel_left (c := a) (by rw [h1, Nat.xor_zero])
  omega
theorem below_set {B : Nat} {w w1 : World} (h : Below B w w1) {g : Nat} (hg : B ≤ g) (j : Nat) (v : Value) : Below B w (w1.setCell ⟨g, j, none⟩ v) :=
  h.trans ⟨rfl, rfl, rfl, by simp [World.setCell], fun k hk => Below.heap_setCell _ _ _ _ (by show k ≠ g; omega)⟩
theorem own_set {w : World} {g : Nat} {l : List Int} (h : w.heap[g]? = some (.cells (nums .u8 l ++ List.replicate 16 (Value.int .u8 0)).toArray 5 (0, 0))) (hl : l.length ≤ 100000) (k : Nat) (v : Int) (hk : k < l.length) :
    Kd.C (Kd.int .u8) (w.setCell ⟨g, k, none⟩ (.int .u8 v)) (some ⟨g, 0, none⟩) (l.set k v).length (l.set k v) := by
  have hs : (w.setCell ⟨g, k, none⟩ (.int .u8 v)).heap[g]? = some (.cells ((nums .u8 l ++ List.replicate 16 (Value.int .u8 0)).toArray.setIfInBounds k (.int .u8 v)) 5 (0, 0)) := by simp [World.setCell, Array.getElem?_modify, h]
  refine C_of_block (off := 0) hs (fun i hi => ?_) (by simp; omega)
  rw [List.length_set] at hi
  by_cases e : k = i
  · subst e
    rw [Nat.zero_add, Array.getElem?_setIfInBounds_self_of_lt (by simp [nums]; omega)]
    simp [hk]
  · rw [Nat.zero_add, Array.getElem?_setIfInBounds_ne e, List.getElem?_toArray, List.getElem?_append_left (by simp [nums]; omega)]
    simp [nums, hi, List.getElem_set_ne e]
theorem own_cell {w : World} {g : Nat} {l : List Int} (h : w.heap[g]? = some (.cells (nums .u8 l ++ List.replicate 16 (Value.int .u8 0)).toArray 5 (0, 0))) (k : Nat) (hk : k < l.length) : w.cell? ⟨g, k, none⟩ = some (.int .u8 (l.getD k 0)) := by
  rw [blk_cell h, List.getElem?_toArray, List.getElem?_append_left (by simp [nums]; omega)]
  simp [nums, hk]
set_option maxHeartbeats 4000000 in
set_option maxRecDepth 100000 in
theorem law_turned (A0 : Option Addr) (c0 : Nat) (hs : List Hd) (xs : List (List Int)) (at_ by_ : Int) (w : World) (hR : RowsAt w A0 hs xs) (hT : Steps w) (ha : 0 ≤ at_ ∧ at_ < 65536) (hby : 0 ≤ by_ ∧ by_ < 256) :
    Calls Tryd.prog 7 #[.slice A0 xs.length c0, .int .u16 at_, .int .u8 by_] w (TruePost w) := by
  have HR := Aside0.mk hR
  have HT := Aside0.mk hT
  have hm := hR.most
  have hl := hR.als.1
  clear hR hT
  obtain ⟨ha0, ha1⟩ := ha
  rcases hS : rowS xs with _ | b
  · have HS := Aside0.mk hS
    clear hS
    go_enter Tryd.func7, Tryd.ntmps7
    go_wp2_with (first | (go_at_call 21; (with_reducible refine (row_no A0 c0 hs xs _ HR.out HT.out HS.out).mono ?_); rintro e w1 ⟨v1, rfl, hb1⟩; have HB1 := Aside0.mk hb1; clear hb1) | (go_at_call 9; (with_reducible refine (awake_calls _ (HT.out.below HB1.out)).mono ?_); rintro e w2 ⟨rfl, hb2⟩; have HB2 := Aside0.mk (below_then HB1.out HB1.out.size hb2); clear hb2))
    go_ret
    exact ⟨rfl, HB2.out⟩
  · have HS := Aside0.mk hS
    obtain ⟨hbe, hbl, hfit, hx20⟩ := rowS_some hS
    have HBE := Aside0.mk hbe
    have HFIT := Aside0.mk hfit
    by_cases hz : b.length = 0 ∨ by_ = 0
    · have hz1 : ((b.length : Int) == 0) = true ∨ (((b.length : Int) == 0) = false ∧ (by_ == 0) = true) := by
        rcases Nat.eq_zero_or_pos b.length with h0 | h0
        · exact Or.inl (by simp [h0])
        · refine Or.inr ⟨beq_eq_false_iff_ne.mpr (by omega), beq_iff_eq.mpr ?_⟩
          rcases hz with h | h
          · omega
          · exact h
      clear hS hbe hfit hz
      rcases hz1 with hz1 | ⟨hz0, hz1⟩
      · go_enter Tryd.func7, Tryd.ntmps7
        go_wp2_with (first | (go_at_call 21; (with_reducible refine (row_yes A0 c0 hs xs _ HR.out HT.out HS.out).mono ?_); rintro e w1 ⟨A1, c1, rfl, hc1, hr1, hb1⟩; have HB1 := Aside0.mk hb1; clear hb1 hr1) | (go_at_call 9; (with_reducible refine (awake_calls _ (HT.out.below HB1.out)).mono ?_); rintro e w2 ⟨rfl, hb2⟩; have HB2 := Aside0.mk (below_then HB1.out HB1.out.size hb2); clear hb2))
        go_ret
        exact ⟨rfl, HB2.out⟩
      · go_enter Tryd.func7, Tryd.ntmps7
        go_wp2_with (first | (go_at_call 21; (with_reducible refine (row_yes A0 c0 hs xs _ HR.out HT.out HS.out).mono ?_); rintro e w1 ⟨A1, c1, rfl, hc1, hr1, hb1⟩; have HB1 := Aside0.mk hb1; clear hb1 hr1) | (go_at_call 9; (with_reducible refine (awake_calls _ (HT.out.below HB1.out)).mono ?_); rintro e w2 ⟨rfl, hb2⟩; have HB2 := Aside0.mk (below_then HB1.out HB1.out.size hb2); clear hb2))
        go_ret
        exact ⟨rfl, HB2.out⟩
    have hyx := HR.out.bytes
    have hyb : Bytes b := by rw [hbe]; exact rows_bytes xs hyx hfit
    have hb0 : 1 ≤ b.length := by omega
    have hby0 : by_ ≠ 0 := fun h => hz (Or.inr h)
    have z1 : ((b.length : Int) == 0) = false := beq_eq_false_iff_ne.mpr (by omega)
    have z2 : (by_ == 0) = false := beq_eq_false_iff_ne.mpr hby0
    obtain ⟨k, hk⟩ : ∃ k : Nat, at_ % (b.length : Int) = (k : Int) := ⟨(at_ % (b.length : Int)).toNat, by have := Int.emod_nonneg at_ (show (b.length : Int) ≠ 0 by omega); omega⟩
    have hkb : k < b.length := by
      have := Int.emod_lt_of_pos at_ (show (0 : Int) < (b.length : Int) by omega)
      omega
    have hold := hyb.getD k
    obtain ⟨y, hyk⟩ : ∃ y, y = b.getD k 0 := ⟨_, rfl⟩
    rw [← hyk] at hold
    obtain ⟨v, hv⟩ : ∃ v, v = Go.bits .xor .u8 y by_ := ⟨_, rfl⟩
    have hvx := xor8_turn y by_ hold hby hby0
    rw [← hv] at hvx
    obtain ⟨hv0, hv1, hvn⟩ := hvx
    have hcut := scan_turned xs k v hyx hfit (by rw [← hbe]; exact hkb) ⟨hv0, hv1⟩ (by rw [← hbe, ← hyk]; exact hvn)
    rw [← hbe] at hcut
    obtain ⟨b', hb'⟩ : ∃ b', b' = b.set k v := ⟨_, rfl⟩
    rw [← hb'] at hcut
    have hlb' : b'.length = b.length := by rw [hb']; simp
    have HYB := Aside0.mk (show Bytes b' from by rw [hb']; exact hyb.set k ⟨hv0, hv1⟩)
    obtain ⟨S, hSe⟩ : ∃ S, S = scanS b' := ⟨_, rfl⟩
    rw [← hSe] at hcut
    have HSE := Aside0.mk hSe
    have HLB := Aside0.mk hlb'
    have HB' := Aside0.mk hb'
    have HYK := Aside0.mk hyk
    have hvv := hv.symm
    clear hS hbe hfit hyx hyb hSe hz hlb' hb' hvn hold hyk hv
    obtain ⟨ys, fin⟩ := S
    simp only at hcut
    obtain ⟨hc1', hc2'⟩ := hcut
    subst hc2'
    go_enter Tryd.func7, Tryd.ntmps7
    go_wp2_with (first | (go_at_call 21; (with_reducible refine (row_yes A0 c0 hs xs _ HR.out HT.out HS.out).mono ?_); rintro e w1 ⟨A1, c1, rfl, hc1, hr1, hb1⟩; have HR1 := Aside0.mk hr1; have HB1 := Aside0.mk hb1; clear hb1 hr1) | (go_at_call 10; (with_reducible refine (own_calls A1 c1 b _ HR1.out (by omega)).mono ?_); rintro e w2 ⟨g2, rfl, hg2, hk2, hbel2⟩; have HK2 := Aside0.mk hk2; have HG2 := Aside0.mk hg2; have HB2 := Aside0.mk (below_then HB1.out HB1.out.size hbel2); have xk2 := own_cell hk2 k hkb; rw [← HYK.out] at xk2; have xf2 := blk_frozen hk2 k; clear hg2 hk2 hbel2) | (go_at_call 19; refine calls_of_args (args' := #[.slice (some ⟨g2, 0, none⟩) b'.length (b.length + 16)]) (by rw [HLB.out]) ((Scan_calls (some ⟨g2, 0, none⟩) (b.length + 16) b' _ (by rw [HB'.out]; exact own_set HK2.out (by omega) k v hkb) (by rw [HLB.out]; omega) HYB.out (HT.out.below (below_set HB2.out (Nat.le_trans HB1.out.size HG2.out) k _)) (by rw [HLB.out]; omega)).mono ?_); rw [← HSE.out]; rintro e w4 ⟨v4, hs4, rfl, ho4, hp4, hb4⟩; have hl4 := hp4.1; obtain ⟨A4, c4, ev4⟩ := Kd.R_slice ho4; subst ev4; rw [hl4, hc1']; have HB4 := Aside0.mk (below_then (below_set HB2.out (Nat.le_trans HB1.out.size HG2.out) k _) (below_set HB2.out (Nat.le_trans HB1.out.size HG2.out) k _).size hb4); clear ho4 hp4 hb4 hl4))
    go_loopw [12, 13, 54] (fun vn ve vi wr => ∃ i n e : Nat, i ≤ xs.length ∧ n ≤ i ∧ vi = .int .i64 (i : Int) ∧ vn = .int .i64 (n : Int) ∧ ve = .int .i64 (e : Int) ∧ e ≤ k ∧ Aside0 ((upto xs k).1 = n + (upto (xs.drop i) (k - e)).1 ∧ (upto xs k).2 = e + (upto (xs.drop i) (k - e)).2) ∧ Aside0 (Below w.heap.size w wr)) (fun _ _ vi _ => xs.length - (intOf vi).toNat)
    case atStart => exact ⟨0, 0, 0, by omega, by omega, rfl, rfl, rfl, by omega, ⟨by simp⟩, ⟨by repeat (first | exact HB4.out | apply pw_below_drewN | apply below_drew1)⟩⟩
    case round =>
      obtain ⟨i, n, e, hi, hni, rfl, rfl, rfl, hek, HU, HB⟩ := hrel
      by_cases hlt : i < xs.length
      · obtain ⟨⟨Ah, lh, ch⟩, e1⟩ : ∃ h : Hd, hs[i]? = some h := ⟨_, List.getElem?_eq_getElem (by omega)⟩
        obtain ⟨x, e2⟩ : ∃ x, xs[i]? = some x := ⟨_, List.getElem?_eq_getElem (by omega)⟩
        obtain ⟨hq1, _, _⟩ := HR.out.als.2 i _ x e1 e2
        simp only at hq1
        subst hq1
        obtain ⟨ad0, e0, x0⟩ := HR.out.cells i _ e1
        cases e0
        have x0 := cell_below x0 HB.out
        simp only at x0
        have hxm := (HFIT.out x (List.mem_of_getElem? e2)).2
        have hdr : xs.drop i = x :: xs.drop (i + 1) := by
          obtain ⟨h1, h2⟩ := List.getElem?_eq_some_iff.1 e2
          rw [List.drop_eq_getElem_cons h1, h2]
        have hu := HU.out
        rw [hdr, upto_cons] at hu
        have j1 : (i : Int) < (xs.length : Int) := by omega
        clear e1 e2
        by_cases hbk : k < e + x.length + 8
        · rw [if_pos (by omega)] at hu
          have d1 : decide ((k : Int) < (e : Int) + (x.length : Int) + 8) = true := decide_eq_true (by omega)
          obtain ⟨hu1, hu2⟩ := hu
          simp only [Nat.add_zero] at hu1 hu2
          rw [hu1, hu2]
          go_wp2_with (go_at_call 9; (with_reducible refine (awake_calls _ (HT.out.below HB.out)).mono ?_); rintro e w9 ⟨rfl, hb9⟩; have HB9 := Aside0.mk (below_then HB.out HB.out.size hb9); clear hb9)
          go_ret
          exact ⟨rfl, HB9.out⟩
        · rw [if_neg (by omega)] at hu
          have d1 : decide ((k : Int) < (e : Int) + (x.length : Int) + 8) = false := decide_eq_false (by omega)
          go_wp2
          exact ⟨⟨i + 1, n + 1, e + (x.length + 8), by omega, by omega, by go_num, by go_num, by go_num, by omega, ⟨by
            have e3 : k - e - (x.length + 8) = k - (e + (x.length + 8)) := by omega
            rw [e3] at hu
            omega⟩, ⟨HB.out⟩⟩, by simp [intOf]; omega⟩
      · have hu := HU.out
        rw [List.drop_eq_nil_of_le (by omega)] at hu
        obtain ⟨hu1, hu2⟩ := hu
        simp only [upto, Nat.add_zero] at hu1 hu2
        rw [hu1, hu2]
        go_wp2_with (go_at_call 9; (with_reducible refine (awake_calls _ (HT.out.below HB.out)).mono ?_); rintro e w9 ⟨rfl, hb9⟩; have HB9 := Aside0.mk (below_then HB.out HB.out.size hb9); clear hb9)
        go_ret
        exact ⟨rfl, HB9.out⟩
end Go.Proofs.YtafajpjonmnjbaaDoor.Fr
