/- Payloads that are turned one by one: what stays. -/
import Derived.Test.YtafajpjonmnjbaaDoorRScan
namespace Go.Proofs.YtafajpjonmnjbaaDoor.Fr
open Go.RowKit Go.Proofs.YtafajpjonmnjbaaDoorW.PrintWords Go.Proofs.YtafajpjonmnjbaaDoorW.PrintLast Go.Proofs.YtafajpjonmnjbaaDoorW.PrintMore Go.Proofs.YtafajpjonmnjbaaDoor.Kit Go.Proofs.YtafajpjonmnjbaaDoor.PFrameGets
set_option linter.unusedVariables false
set_option linter.unusedSimpArgs false
/-- The first of these blocks may have turned; nothing else has. -/
structure Turned (gs : List Nat) (i : Nat) (w wr : World) : Prop where
  os : wr.os = w.os
  tape : wr.tape = w.tape
  output : wr.output = w.output
  size : w.heap.size ≤ wr.heap.size
  block : ∀ k, k < w.heap.size → (∀ j, j < i → gs[j]? ≠ some k) → wr.heap[k]? = w.heap[k]?
theorem Turned.refl (gs : List Nat) (w : World) : Turned gs 0 w w := ⟨rfl, rfl, rfl, Nat.le_refl _, fun _ _ _ => rfl⟩
theorem Turned.next {gs : List Nat} {i : Nat} {w wr : World} (h : Turned gs i w wr) : Turned gs (i + 1) w wr := ⟨h.os, h.tape, h.output, h.size, fun k hk hj => h.block k hk fun j h1 => hj j (by omega)⟩
theorem Turned.below {gs : List Nat} {i : Nat} {w wr w1 : World} (h : Turned gs i w wr) (hb : Below wr.heap.size wr w1) : Turned gs i w w1 :=
  ⟨hb.os.trans h.os, hb.tape.trans h.tape, hb.output.trans h.output, Nat.le_trans h.size hb.size, fun k hk hj => (hb.block k (Nat.lt_of_lt_of_le hk h.size)).trans (h.block k hk hj)⟩
theorem Turned.set {gs : List Nat} {i g : Nat} {w wr : World} (h : Turned gs (i + 1) w wr) (hg : gs[i]? = some g) (j : Nat) (v : Value) : Turned gs (i + 1) w (wr.setCell ⟨g, j, none⟩ v) :=
  ⟨h.os, h.tape, h.output, by simpa [World.setCell] using h.size, fun k hk hj => by
    rw [Below.heap_setCell _ _ _ _ (fun e => hj i (by omega) (by rw [hg]; exact congrArg some e.symm))]
    exact h.block k hk hj⟩
theorem Turned.at_ {gs : List Nat} {i : Nat} {w wr : World} (h : Turned gs i w wr) (hp : gs.Pairwise (· < ·)) {j g : Nat} (hij : i ≤ j) (hg : gs[j]? = some g) (hl : g < w.heap.size) : wr.heap[g]? = w.heap[g]? :=
  h.block g hl fun j' h1 e => by
    have hjl : j < gs.length := (List.getElem?_eq_some_iff.1 hg).1
    have := List.pairwise_iff_getElem.1 hp j' j (by omega) hjl (by omega)
    rw [List.getElem?_eq_getElem (by omega)] at e
    rw [List.getElem?_eq_getElem hjl] at hg
    injection e with e
    injection hg with hg
    omega
theorem Turned.base {gs : List Nat} {i B : Nat} {w wr : World} (h : Turned gs i w wr) (hB : ∀ (j g : Nat), gs[j]? = some g → B ≤ g) (hs : B ≤ w.heap.size) : Below B w wr :=
  ⟨h.os, h.tape, h.output, h.size, fun k hk => h.block k (by omega) fun j _ e => by have := hB j k e; omega⟩
/-- A row of headers in a block. -/
def HRow (w : World) (A : Option Addr) (hs : List Hd) : Prop :=
  ∀ (i : Nat) (h : Hd), hs[i]? = some h → ∃ (g : Nat) (cur : Array Value), A = some ⟨g, 0, none⟩ ∧ w.heap[g]? = some (.cells cur 22 (0, 0)) ∧ cur[i]? = some h.val
theorem hrow_of_R {w : World} {base : Nat} {v : Value} {hs : List Hd} (h : Kd.R hds 22 w base (fun _ => True) v hs) : ∃ A c, v = .slice A hs.length c ∧ hs.length ≤ c ∧ HRow w A hs := by
  have ho := Kd.own_of_R h
  rcases ho.2 with ⟨rfl, h0⟩ | ⟨g, cap, cur, rfl, hg, hh, hn, _, hs', ht⟩
  · exact ⟨none, 0, by rw [h0], by omega, fun i h hi => by have := (List.getElem?_eq_some_iff.1 hi).1; omega⟩
  · refine ⟨some ⟨g, 0, none⟩, cap, rfl, hn, fun i h hi => ⟨g, cur, rfl, hh, ?_⟩⟩
    have hl : i < hs.length := (List.getElem?_eq_some_iff.1 hi).1
    have e1 : (cur.toList.take hs.length)[i]? = (encs Hd.val hs)[i]? := by
      have := congrArg (fun l : List Value => l[i]?) ht
      simpa using this
    rw [List.getElem?_take_of_lt hl] at e1
    rw [← Array.getElem?_toList, e1]
    simp [encs, hi]
theorem HRow.turned {gs : List Nat} {n : Nat} {w wr : World} {A : Option Addr} {hs : List Hd} (h : HRow w A hs) (ht : Turned gs n w wr) (h5 : ∀ (j g : Nat), gs[j]? = some g → ∃ cur : Array Value, w.heap[g]? = some (.cells cur 5 (0, 0))) : HRow wr A hs := fun i hd hi => by
  obtain ⟨g, cur, e, hb, hc⟩ := h i hd hi
  refine ⟨g, cur, e, ?_, hc⟩
  rw [ht.block g (blk_lt hb) fun j _ e => ?_]
  · exact hb
  · obtain ⟨cur', hb'⟩ := h5 j g e
    rw [hb] at hb'
    injection hb' with hb'
    injection hb' with _ e5
    exact absurd e5 (by decide)
theorem HRow.below {w wr : World} {A : Option Addr} {hs : List Hd} (h : HRow w A hs) (ht : Below w.heap.size w wr) : HRow wr A hs := fun i hd hi => by
  obtain ⟨g, cur, e, hb, hc⟩ := h i hd hi
  exact ⟨g, cur, e, blk_below hb ht, hc⟩
theorem HRow.cell {w : World} {A : Option Addr} {hs : List Hd} (h : HRow w A hs) {i : Nat} {x : Hd} (hi : hs[i]? = some x) : ∃ ad, A = some ad ∧ w.cell? (ad.add i) = some (.slice x.1 x.2.1 x.2.2) := by
  obtain ⟨g, cur, e, hb, hc⟩ := h i x hi
  refine ⟨_, e, ?_⟩
  rw [Addr.add_lit, Nat.zero_add, blk_cell hb]
  exact hc
theorem PayAt.C {w : World} {g : Nat} {h : Hd} {x : List Int} (p : PayAt w g h x) (hm : x.length ≤ 9223372036854775807) : Kd.C (Kd.int .u8) w (some ⟨g, 0, none⟩) x.length x := by
  obtain ⟨cur, hb, hs, ht⟩ := p.blk
  refine C_of_block (off := 0) hb (fun i hi => ?_) hm
  have e1 : (cur.toList.take x.length)[i]? = (nums .u8 x)[i]? := by rw [ht]
  rw [List.getElem?_take_of_lt hi] at e1
  rw [Nat.zero_add, ← Array.getElem?_toList, e1]
  simp [nums, hi]
/-- A block all of whose cells, as far as they are met, are bytes. -/
def ByteBlk (w : World) (g n : Nat) : Prop := ∃ cur : Array Value, w.heap[g]? = some (.cells cur 5 (0, 0)) ∧ ∀ j, j < n → ∃ z, cur[j]? = some (.int .u8 z)
theorem PayAt.bytes {w : World} {g : Nat} {h : Hd} {x : List Int} (p : PayAt w g h x) : ByteBlk w g x.length := by
  obtain ⟨cur, hb, hs, ht⟩ := p.blk
  refine ⟨cur, hb, fun i hi => ⟨x.getD i 0, ?_⟩⟩
  have e1 : (cur.toList.take x.length)[i]? = (nums .u8 x)[i]? := by rw [ht]
  rw [List.getElem?_take_of_lt hi] at e1
  rw [← Array.getElem?_toList, e1]
  simp [nums, hi]
theorem ByteBlk.set {w : World} {g n : Nat} (h : ByteBlk w g n) (j : Nat) (z : Int) : ByteBlk (w.setCell ⟨g, j, none⟩ (.int .u8 z)) g n := by
  obtain ⟨cur, hb, hc⟩ := h
  obtain ⟨hlt, he⟩ := Array.getElem?_eq_some_iff.1 hb
  refine ⟨cur.setIfInBounds j (.int .u8 z), by simp [World.setCell, Array.getElem?_modify, hb], fun i hi => ?_⟩
  obtain ⟨y, hy⟩ := hc i hi
  by_cases e : j = i
  · subst e
    have : j < cur.size := (Array.getElem?_eq_some_iff.1 hy).1
    exact ⟨z, by simp [Array.getElem?_setIfInBounds, this]⟩
  · exact ⟨y, by rw [Array.getElem?_setIfInBounds_ne e]; exact hy⟩
theorem ByteBlk.below {w w1 : World} {g n : Nat} (h : ByteBlk w g n) (hb : Below w.heap.size w w1) : ByteBlk w1 g n := by
  obtain ⟨cur, h1, hc⟩ := h
  exact ⟨cur, blk_below h1 hb, hc⟩
theorem ByteBlk.cell {w : World} {g n : Nat} (h : ByteBlk w g n) (j : Nat) (hj : j < n) : ∃ z, w.cell? ⟨g, j, none⟩ = some (.int .u8 z) ∧ w.frozen? ⟨g, j, none⟩ = false := by
  obtain ⟨cur, h1, hc⟩ := h
  obtain ⟨z, hz⟩ := hc j hj
  exact ⟨z, by rw [blk_cell h1]; exact hz, blk_frozen h1 j⟩
end Go.Proofs.YtafajpjonmnjbaaDoor.Fr
