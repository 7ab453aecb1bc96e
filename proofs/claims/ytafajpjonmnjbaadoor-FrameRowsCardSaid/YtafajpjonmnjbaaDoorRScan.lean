/- The reference's Scan, walked. -/
import Derived.Test.YtafajpjonmnjbaaDoorScanW
namespace Go.Proofs.YtafajpjonmnjbaaDoor.Fr
open Go.RowKit Go.Proofs.YtafajpjonmnjbaaDoorW.PrintWords Go.Proofs.YtafajpjonmnjbaaDoorW.PrintLast Go.Proofs.YtafajpjonmnjbaaDoorW.PrintMore Go.Proofs.YtafajpjonmnjbaaDoor.Kit Go.Proofs.YtafajpjonmnjbaaDoor.PFrameGets
set_option linter.unusedVariables false
set_option linter.unusedSimpArgs false
/-- Cuts that read as these bytes. -/
def Als (w : World) (hs : List Hd) (xs : List (List Int)) : Prop :=
  hs.length = xs.length ∧ ∀ (i : Nat) (h : Hd) (x : List Int), hs[i]? = some h → xs[i]? = some x → h.2.1 = x.length ∧ x.length ≤ h.2.2 ∧ Kd.C (Kd.int .u8) w h.1 x.length x
theorem Als.nil (w : World) : Als w [] [] := ⟨rfl, fun i h x hh => by simp at hh⟩
theorem Als.snoc {w : World} {hs : List Hd} {xs : List (List Int)} (p : Als w hs xs) {A : Option Addr} {c : Nat} {x : List Int} (hc : x.length ≤ c) (hC : Kd.C (Kd.int .u8) w A x.length x) : Als w (hs ++ [(A, x.length, c)]) (xs ++ [x]) := by
  obtain ⟨hl, ha⟩ := p
  refine ⟨by simp [hl], fun i h' x' e1 e2 => ?_⟩
  by_cases hi : i < xs.length
  · rw [List.getElem?_append_left (by omega)] at e1 e2
    exact ha i h' x' e1 e2
  · have hi' : i = xs.length := by
      have := (List.getElem?_eq_some_iff.1 e2).1
      simp at this
      omega
    subst hi'
    rw [List.getElem?_append_right (by omega)] at e1 e2
    simp [hl] at e1 e2
    subst e1; subst e2
    exact ⟨rfl, hc, hC⟩
def RScanPost (wz : World) (r : List (List Int) × Nat) (w : World) (e : Ending) (w' : World) : Prop :=
  ∃ v hs, e = .returned (.tuple #[v, .int .i64 (r.2 : Int)]) ∧ Kd.R hds 22 w' w.heap.size (fun _ => True) v hs ∧ Als wz hs r.1 ∧ Below w.heap.size w w'
/-- What the reference's Get has told of bytes, in three slots. -/
def RA (w : World) (rest : List Int) (vp vn ve : Value) : Prop :=
  ∃ A c, vp = .slice A (getS rest).1.length c ∧ (getS rest).1.length ≤ c ∧ Kd.C (Kd.int .u8) w A (getS rest).1.length (getS rest).1 ∧ vn = .int .i64 (getS rest).2.1 ∧ ve = .int .i64 (getS rest).2.2
theorem RGet_at (w : World) (A' : Option Addr) (c' : Nat) (rest : List Int) (hC : Kd.C (Kd.int .u8) w A' rest.length rest) (hc : rest.length ≤ c') (hy : Bytes rest) (u : World) (hu : Below w.heap.size w u) :
    Calls Tryd.prog 18 #[.slice A' rest.length c'] u fun e w' => ∃ vp vn ve, e = .returned (.tuple #[vp, vn, ve]) ∧ RA w rest vp vn ve ∧ Below u.heap.size u w' :=
  (RGet_calls A' c' rest u (Kd.C_below hC hu) hc hy).mono fun e w' h => by
    obtain ⟨A, c, rfl, hc2, hal, hb⟩ := h
    exact ⟨_, _, _, rfl, ⟨A, c, rfl, hc2, hal w hC, rfl, rfl⟩, hb⟩
set_option maxHeartbeats 4000000 in
set_option maxRecDepth 100000 in
theorem RScan_calls (A0 : Option Addr) (c0 : Nat) (l0 : List Int) (wz w : World) (hz : Below wz.heap.size wz w) (hr0 : Kd.C (Kd.int .u8) wz A0 l0.length l0) (hc0 : l0.length ≤ c0) (hy : Bytes l0) (hl : l0.length ≤ 1000000) :
    Calls Tryd.prog 20 #[.slice A0 l0.length c0] w (RScanPost wz (scanS l0) w) := by
  have HR0 := Aside0.mk hr0
  have HY := Aside0.mk hy
  have HF : Aside0 (∀ u, Below w.heap.size w u → Calls Tryd.prog 18 #[.slice A0 l0.length c0] u fun e w' => ∃ vp vn ve, e = .returned (.tuple #[vp, vn, ve]) ∧ RA wz l0 vp vn ve ∧ Below u.heap.size u w') := ⟨fun u hu => RGet_at wz A0 c0 l0 hr0 hc0 hy u (below_then hz hz.size hu)⟩
  have HZ := Aside0.mk hz
  clear hr0 hy hz
  go_enter Tryd.func20, Tryd.ntmps20
  go_wp2_with (first | (go_at_call 18; (with_reducible refine (HF.out _ ?hD).mono ?_); (case hD => repeat (first | exact Below.refl _ _ | apply pw_below_drewN | apply below_drew1)); rintro e w1 ⟨vp, vn, ve, rfl, ra1, hb1⟩; have HB1 := Aside0.mk (below_then (show Below w.heap.size w _ by repeat (first | exact Below.refl _ _ | apply pw_below_drewN | apply below_drew1)) (Below.size (show Below w.heap.size w _ by repeat (first | exact Below.refl _ _ | apply pw_below_drewN | apply below_drew1))) hb1); have RA1 := Aside0.mk ra1; clear hb1 ra1))
  go_loopw [4, 5, 6, 7, 8] (fun v i vp vn ve wr => ∃ (a : Nat) (hs : List Hd) (dn : List (List Int)), i = .int .i64 (a : Int) ∧ Aside0 (a ≤ l0.length) ∧ Aside0 (scanS l0 = (dn ++ (scanS (l0.drop a)).1, a + (scanS (l0.drop a)).2)) ∧ Aside0 (Kd.R hds 22 wr w.heap.size (fun _ => True) v hs) ∧ Aside0 (Als wz hs dn) ∧ Aside0 (Below w.heap.size w wr) ∧ Aside0 (9 * dn.length ≤ a) ∧ Aside0 (RA wz (l0.drop a) vp vn ve)) (fun _ i _ _ _ _ => l0.length - (intOf i).toNat)
  case atStart => exact ⟨0, [], [], rfl, ⟨by omega⟩, ⟨by simp⟩, ⟨Kd.R_nil _ _ _ _ _⟩, ⟨Als.nil _⟩, HB1, ⟨by simp⟩, RA1⟩
  case round =>
    obtain ⟨a, hs, dn, rfl, HA, HE, HO, HP, HB, HN, HRA⟩ := hrel
    obtain ⟨Ap, cp, rfl, hcp, hCp, rfl, rfl⟩ := HRA.out
    have ha := HA.out
    have hsl : hs.length ≤ 1000000 := by have := HN.out; have := HP.out.1; omega
    obtain ⟨rest, hrest⟩ : ∃ r, r = l0.drop a := ⟨_, rfl⟩
    have hlr : rest.length = l0.length - a := by rw [hrest]; simp
    rw [← hrest] at hCp hcp
    rw [← hrest]
    by_cases he : (getS rest).2.2 = 0
    · have hok := getS_ok he
      have hn2 : (getS rest).2.1 = (getN rest : Int) := by omega
      have HE2 := Aside0.mk (scan_step HE.out (by rw [← hrest]; exact he))
      rw [← hrest] at HE2
      have hpl : 1 ≤ (getS rest).1.length := by rw [hok.2.2.2.2.1]; simp; omega
      rw [he, hn2]
      have hnl : a + getN rest ≤ l0.length := by omega
      have hn9 : 9 ≤ getN rest := by omega
      clear hok he hn2 hrest hlr
      generalize getN rest = n at *
      generalize (getS rest).1 = p at *
      obtain ⟨A', hcut, hCr⟩ := cut_l (P := Tryd.prog) Tryd.underlying22 elem22 sizeOf5 HR0.out hc0 (a + n) ((a : Int) + (n : Int)) (by omega) hnl
      have hlr2 : (l0.drop (a + n)).length = l0.length - (a + n) := by simp
      have hcall : ∀ u, Below w.heap.size w u → Calls Tryd.prog 18 #[.slice A' (l0.length - (a + n)) (c0 - (a + n))] u fun e w' => ∃ vp vn ve, e = .returned (.tuple #[vp, vn, ve]) ∧ RA wz (l0.drop (a + n)) vp vn ve ∧ Below u.heap.size u w' := fun u hu => by
        rw [← hlr2] at hCr ⊢
        exact RGet_at wz A' _ _ hCr (by omega) (fun x hx => HY.out x (List.mem_of_mem_drop hx)) u (below_then HZ.out HZ.out.size hu)
      have HC2 := Aside0.mk hcall
      have HCP := Aside0.mk hCp
      have HCL := Aside0.mk hcp
      clear hcall hCr hlr2 hCp hcp hpl
      go_wp2_with (first | (go_at_call 18; (with_reducible refine (HC2.out _ HB2.out).mono ?_); rintro e w1 ⟨vp, vn, ve, rfl, ra1, hb1⟩; have HB3 := Aside0.mk (below_then HB2.out HB2.out.size hb1); have HO3 := Aside0.mk (Kd.R_below HO2.out hb1); have RA3 := Aside0.mk ra1; clear hb1 ra1) | ((with_reducible refine gate_dst (N := 20) rfl ?_); refine appS_event Hd.val (fun _ => rfl) (w0 := w) w.heap.size rfl (N := 20) rfl _ _ 36 22 (.slice none 0 0) 24 rfl Tryd.underlying36 info22 rfl (by omega) u4 hs (Ap, p.length, cp) rfl rfl HO.out HB.out HB.out.size (by omega) ?_; intro v2 w2 ho2 hb2 hg2 hat2; have HO2 : Aside0 (hds.R 22 w2 w.heap.size (fun _ => True) v2 (hs ++ [((Ap, p.length, cp) : Hd)])) := ⟨ho2⟩; have HB2 := Aside0.mk hb2; clear ho2 hb2 hg2 hat2))
      go_roundw
      case rel => exact ⟨a + n, hs ++ [((Ap, p.length, cp) : Hd)], dn ++ [p], by go_num, ⟨hnl⟩, HE2, HO3, ⟨HP.out.snoc HCL.out HCP.out⟩, HB3, ⟨by have := HN.out; simp; omega⟩, RA3⟩
      case measure => simp [intOf]; omega
    · have HE2 := Aside0.mk (scan_end HE.out (by rw [← hrest]; exact he))
      generalize (getS rest).2.2 = q at *
      have hq0 : (q == 0) = false := beq_eq_false_iff_ne.mpr he
      clear he hCp
      go_wp2
      go_ret2
      refine ⟨u4, hs, by rw [HE2.out]; simp, HO.out, ?_, HB.out⟩
      rw [HE2.out]
      exact HP.out
end Go.Proofs.YtafajpjonmnjbaaDoor.Fr
