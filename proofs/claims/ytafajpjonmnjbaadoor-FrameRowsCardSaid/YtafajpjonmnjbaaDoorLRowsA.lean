/- A slice of byte slices that came in; and what 'row' makes of it. -/
import Derived.Test.YtafajpjonmnjbaaDoorLGetsA
import Derived.Test.YtafajpjonmnjbaaDoorArg
import Derived.Deep.Matrix
import Derived.Deep.RegionHeld3
namespace Go.Proofs.YtafajpjonmnjbaaDoor.Fr
open Go.ChangeShapes Go.WideShapes Go.ChangeAt Go.RowKit Go.Proofs.YtafajpjonmnjbaaDoorW.PrintWords Go.Proofs.YtafajpjonmnjbaaDoorW.PrintLast Go.Proofs.YtafajpjonmnjbaaDoorW.PrintMore Go.Proofs.YtafajpjonmnjbaaDoor.Kit Go.Proofs.YtafajpjonmnjbaaDoor.PFrameGets
set_option linter.unusedVariables false
set_option linter.unusedSimpArgs false
/-- A row of headers that is read, and what each reads as. -/
structure RowsAt (w : World) (A : Option Addr) (hs : List Hd) (xs : List (List Int)) : Prop where
  cells : ∀ (i : Nat) (h : Hd), hs[i]? = some h → ∃ ad, A = some ad ∧ w.cell? (ad.add i) = some (.slice h.1 h.2.1 h.2.2)
  als : Als w hs xs
  bytes : ∀ x ∈ xs, Bytes x
  most : xs.length ≤ 9223372036854775807
theorem RowsAt.nil (w : World) : RowsAt w none [] [] := ⟨fun i h hi => by simp at hi, Als.nil w, fun x hx => by simp at hx, by simp⟩
theorem Als.below {w w1 : World} {hs : List Hd} {xs : List (List Int)} (h : Als w hs xs) (hb : Below w.heap.size w w1) : Als w1 hs xs :=
  ⟨h.1, fun i hd x e1 e2 => ⟨(h.2 i hd x e1 e2).1, (h.2 i hd x e1 e2).2.1, Kd.C_below (h.2 i hd x e1 e2).2.2 hb⟩⟩
theorem cell_below {w w1 : World} {ad : Addr} {v : Value} (h : w.cell? ad = some v) (hb : Below w.heap.size w w1) : w1.cell? ad = some v := by
  have hlt : ad.block < w.heap.size := by
    rcases Nat.lt_or_ge ad.block w.heap.size with h1 | h1
    · exact h1
    · simp [World.cell?, Array.getElem?_eq_none h1] at h
  have := hb.block _ hlt
  simpa [World.cell?, this] using h
theorem RowsAt.below {w w1 : World} {A : Option Addr} {hs : List Hd} {xs : List (List Int)} (h : RowsAt w A hs xs) (hb : Below w.heap.size w w1) : RowsAt w1 A hs xs :=
  ⟨fun i hd hi => by obtain ⟨ad, e, hc⟩ := h.cells i hd hi; exact ⟨ad, e, cell_below hc hb⟩, h.als.below hb, h.bytes, h.most⟩
/-- An argument that is a slice of byte slices. -/
theorem arg_rows {H : Type} {enc : TypeId × Value → H} {P : Program} {W : World} {b0 : Nat} {r : Reach} {held : Bool} {t e q : TypeId} {v : Value} {d : DataW H} {p : List MemPlace}
    (hu : P.underlying t = some (.slice e)) (he : P.underlying e = some (.slice q)) (hq : P.underlying q = some (.int .u8)) (ce : P.cellsOf e = 1) (cq : P.cellsOf q = 1)
    (hv : Value.okWide P W r b0 t v) (h : DataW.Trod enc P W 0 (fun _ => true) held t v d p) :
    ∃ (A : Option Addr) (c : Nat) (hs : List Hd) (xs : List (List Int)), v = .slice A xs.length c ∧ RowsAt W A hs xs := by
  obtain ⟨a, len, cap, rfl⟩ := okWide_slice hu hv
  obtain ⟨fuel, hf⟩ := h
  rcases Go.Deep.open_int_rows hu he hq ce cq hf with ⟨e1, _⟩ | ⟨a', len', cap', A, L, C, Z, e1, _, hl, hm, _, hr⟩
  · simp only [Value.cells, List.cons.injEq, Value.slice.injEq, and_true] at e1
    exact ⟨none, 0, [], [], by simp [e1.1, e1.2.1, e1.2.2], RowsAt.nil W⟩
  · simp only [Value.cells, List.cons.injEq, Value.slice.injEq, and_true] at e1
    obtain ⟨rfl, rfl, rfl⟩ := e1
    refine ⟨some a', cap, (List.range len).map fun r => (A r, L r, C r), (List.range len).map fun r => (Z r).take (L r), by simp, ⟨?_, ⟨by simp, ?_⟩, ?_, ?_⟩⟩
    · intro i hd hi
      have hlt : i < len := by have := (List.getElem?_eq_some_iff.1 hi).1; simpa using this
      have e : hd = (A i, L i, C i) := by
        have := (List.getElem?_eq_some_iff.1 hi).2
        simpa using this.symm
      subst e
      exact ⟨a', rfl, (hr i (by omega)).1⟩
    · intro i hd x hi hx
      have hlt : i < len := by have := (List.getElem?_eq_some_iff.1 hi).1; simpa using this
      have e : hd = (A i, L i, C i) := by
        have := (List.getElem?_eq_some_iff.1 hi).2
        simpa using this.symm
      have e2 : x = (Z i).take (L i) := by
        have := (List.getElem?_eq_some_iff.1 hx).2
        simpa using this.symm
      obtain ⟨h1, h2, h3, h4, h5, h6, h7⟩ := hr i (by omega)
      have hxl : x.length = L i := by rw [e2]; simp; omega
      subst e
      refine ⟨hxl.symm, by rw [hxl]; exact h2, ?_⟩
      rcases hA : A i with _ | ad
      · have := h6 hA
        have hx0 : x = [] := List.eq_nil_of_length_eq_zero (by omega)
        subst hx0
        exact Kd.C_nil _ _
      · have h8 := (h7 ad hA).2
        refine ⟨rfl, ?_, fun _ => ⟨ad, rfl, fun j pj hj => ⟨[.int .u8 pj], rfl, rfl, fun i' u hi' => ?_⟩⟩⟩
        · unfold maxLen at h3; omega
        · have hjl : j < L i := by have := (List.getElem?_eq_some_iff.1 hj).1; omega
          have hi0 : i' = 0 := by
            rcases i' with _ | i'
            · rfl
            · simp at hi'
          subst hi0
          have hu : Value.int .u8 pj = u := by simpa using hi'
          subst hu
          have hs : (Kd.int .u8).sz = 1 := rfl
          rw [hs, Nat.mul_one, Nat.add_zero, h8 j (by omega)]
          have : (Z i)[j]? = some pj := by rw [e2, List.getElem?_take_of_lt hjl] at hj; exact hj
          simp [List.getD_eq_getElem?_getD, this]
    · intro x hx
      simp only [List.mem_map, List.mem_range] at hx
      obtain ⟨i, hi, rfl⟩ := hx
      exact bytes_of fun n hn => (hr i (by omega)).2.2.2.2.1 n (List.mem_of_mem_take hn)
    · unfold maxLen at hm
      simp; omega
/-- What row makes, and whether. -/
def rowGo : List (List Int) → List Int → Option (List Int)
  | [], out => if out.length ≤ 4500 then some out else none
  | p :: ps, out => if p.length < 1 ∨ 4096 < p.length ∨ 4500 < out.length then none else rowGo ps (out ++ frame p)
def rowS (xs : List (List Int)) : Option (List Int) := if 20 < xs.length then none else rowGo xs []
def RowPost (r : Option (List Int)) (w : World) (e : Ending) (w' : World) : Prop :=
  ∃ v, e = .returned (.tuple #[v, .bool r.isSome]) ∧ (∀ b, r = some b → Own .u8 5 w' w.heap.size v b) ∧ Below w.heap.size w w'
theorem rowPost_none {v : Value} {w w' : World} (h : Below w.heap.size w w') : RowPost none w (.returned (.tuple #[v, .bool false])) w' := ⟨v, rfl, (fun b hb => by cases hb), h⟩
theorem frame_len (p : List Int) : (frame p).length = p.length + 8 := by simp [frame, hdr, sumBytes]
set_option maxHeartbeats 4000000 in
set_option maxRecDepth 100000 in
theorem row_calls (A0 : Option Addr) (c0 : Nat) (hs : List Hd) (xs : List (List Int)) (w : World) (hR : RowsAt w A0 hs xs) (hT : Steps w) :
    Calls Tryd.prog 21 #[.slice A0 xs.length c0] w (RowPost (rowS xs) w) := by
  have HR := Aside0.mk hR
  have HT := Aside0.mk hT
  have hm := hR.most
  have hl := hR.als.1
  clear hR hT
  by_cases h20 : 20 < xs.length
  · have e : rowS xs = none := if_pos h20
    rw [e]
    have d0 : decide (20 < (xs.length : Int)) = true := decide_eq_true (by omega)
    go_enter Tryd.func21, Tryd.ntmps21
    go_wp2
    go_ret2
    exact rowPost_none (by repeat (first | exact Below.refl _ _ | apply pw_below_drewN | apply below_drew1))
  · have HE := Aside0.mk (show rowS xs = rowGo xs [] from if_neg h20)
    have d0 : decide (20 < (xs.length : Int)) = false := decide_eq_false (by omega)
    go_enter Tryd.func21, Tryd.ntmps21
    go_wp2
    go_loopw [4, 14] (fun v i wr => ∃ (k : Nat) (out : List Int), k ≤ xs.length ∧ i = .int .i64 k ∧ Aside0 (rowS xs = rowGo (xs.drop k) out) ∧ Aside0 (Own .u8 5 wr w.heap.size v out) ∧ Aside0 (Below w.heap.size w wr) ∧ out.length ≤ 10000) (fun _ i _ => xs.length - (intOf i).toNat)
    case atStart => exact ⟨0, [], by omega, rfl, HE, ⟨Kd.R_nil _ _ _ _ _⟩, ⟨by repeat (first | exact Below.refl _ _ | apply pw_below_drewN | apply below_drew1)⟩, by simp⟩
    case round =>
      obtain ⟨k, out, hk, rfl, HE2, HO, HB, hol⟩ := hrel
      obtain ⟨A4, c4, ev4, hc4, hr4⟩ := HO.out.reads
      subst ev4
      have HR4 := Aside0.mk hr4
      have HC4 := Aside0.mk hc4
      clear hr4 hc4
      by_cases hlt : k < xs.length
      · obtain ⟨⟨Ah, lh, ch⟩, e1⟩ : ∃ h : Hd, hs[k]? = some h := ⟨_, List.getElem?_eq_getElem (by omega)⟩
        obtain ⟨x, e2⟩ : ∃ x, xs[k]? = some x := ⟨_, List.getElem?_eq_getElem (by omega)⟩
        obtain ⟨hq1, hq2, hq3⟩ := HR.out.als.2 k _ x e1 e2
        simp only at hq1 hq2 hq3
        subst hq1
        obtain ⟨ad0, e0, x0⟩ := HR.out.cells k _ e1
        cases e0
        have x0 := cell_below x0 HB.out
        simp only at x0
        have HQ3 := Aside0.mk hq3
        have hxm := Kd.C_max hq3
        have hdr : xs.drop k = x :: xs.drop (k + 1) := by
          have := (List.getElem?_eq_some_iff.1 e2)
          obtain ⟨h1, h2⟩ := this
          rw [List.drop_eq_getElem_cons h1, h2]
        have HE3 := HE2
        rw [hdr] at HE3
        have hz : (xs.length : Int) ≤ 20 := by omega
        have j1 : (k : Int) < (xs.length : Int) := by omega
        clear hq3 e1 e2
        by_cases h1 : x.length < 1
        · have ee : rowS xs = none := by rw [HE3.out]; exact if_pos (Or.inl h1)
          rw [ee]
          have d1 : decide ((x.length : Int) < 1) = true := decide_eq_true (by omega)
          go_wp2
          go_ret2
          exact rowPost_none (by repeat (first | exact HB.out | apply pw_below_drewN | apply below_drew1))
        · have d1 : decide ((x.length : Int) < 1) = false := decide_eq_false (by omega)
          by_cases h2 : 4096 < x.length
          · have ee : rowS xs = none := by rw [HE3.out]; exact if_pos (Or.inr (Or.inl h2))
            rw [ee]
            have d2 : decide (4096 < (x.length : Int)) = true := decide_eq_true (by omega)
            go_wp2
            go_ret2
            exact rowPost_none (by repeat (first | exact HB.out | apply pw_below_drewN | apply below_drew1))
          · have d2 : decide (4096 < (x.length : Int)) = false := decide_eq_false (by omega)
            by_cases h3 : 4500 < out.length
            · have ee : rowS xs = none := by rw [HE3.out]; exact if_pos (Or.inr (Or.inr h3))
              rw [ee]
              have d3 : decide (4500 < (out.length : Int)) = true := decide_eq_true (by omega)
              go_wp2
              go_ret2
              exact rowPost_none (by repeat (first | exact HB.out | apply pw_below_drewN | apply below_drew1))
            · have d3 : decide (4500 < (out.length : Int)) = false := decide_eq_false (by omega)
              have HE4 := Aside0.mk (show rowS xs = rowGo (xs.drop (k + 1)) (out ++ frame x) by rw [HE3.out]; exact if_neg (by omega))
              have hfl := frame_len x
              go_wp2_with (go_at_call 14; (with_reducible refine (Put_ok A4 Ah c4 ch out x _ HR4.out (Kd.C_below HQ3.out HB.out) (HT.out.below HB.out) (by omega) (by omega)).mono ?_); rintro e w3 ⟨v3, rfl, ho3, hb3⟩; have HO3 := Aside0.mk (ho3.lower HB.out.size); have HB3 := Aside0.mk (below_then HB.out HB.out.size hb3); clear ho3 hb3)
              go_roundw
              case rel => exact ⟨k + 1, out ++ frame x, by omega, by go_num, HE4, ⟨HO3.out⟩, HB3, by simp; omega⟩
              case measure => simp [intOf]; omega
      · have hke : xs.drop k = [] := List.drop_eq_nil_of_le (by omega)
        by_cases h4 : out.length ≤ 4500
        · have ee : rowS xs = some out := by rw [HE2.out, hke]; exact if_pos h4
          have d4 : decide ((out.length : Int) ≤ 4500) = true := decide_eq_true (by omega)
          go_wp2
          go_ret2
          rw [ee]
          exact ⟨_, rfl, fun b hb => by cases hb; exact HO.out, HB.out⟩
        · have ee : rowS xs = none := by rw [HE2.out, hke]; exact if_neg h4
          have d4 : decide ((out.length : Int) ≤ 4500) = false := decide_eq_false (by omega)
          go_wp2
          go_ret2
          rw [ee]
          exact rowPost_none (by repeat (first | exact HB.out | apply pw_below_drewN | apply below_drew1))
end Go.Proofs.YtafajpjonmnjbaaDoor.Fr
