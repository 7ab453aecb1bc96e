/- A disk in memory; what its small methods tell. -/
import Derived.Test.YtpaphcoloogdlaaKit2
import Derived.Test.YtpaphcoloogdlaaPDiskPlaysx1
import Derived.Laws.CopyOwn
import Derived.BigQuiet
import Derived.BigRegion
namespace Go.Proofs.Ytpaphcoloogdlaa.Dk
open Go.RowKit Go.Proofs.YtpaphcoloogdlaaW.PrintWords Go.Proofs.YtpaphcoloogdlaaW.PrintLast Go.Proofs.YtpaphcoloogdlaaW.PrintMore Go.Proofs.Ytpaphcoloogdlaa.Kit
set_option linter.unusedVariables false
set_option linter.unusedSimpArgs false
/-- A row of whole numbers reads alike where its block is the same. -/
theorem C_same {k : IntKind} {w w1 : World} {A : Option Addr} {n : Nat} {xs : List Int} (h : (Kd.int k).C w A n xs) (hs : ∀ ad, A = some ad → w1.heap[ad.block]? = w.heap[ad.block]?) : (Kd.int k).C w1 A n xs := by
  refine ⟨h.1, h.2.1, fun hp => ?_⟩
  obtain ⟨ad, e, hc⟩ := h.2.2 hp
  refine ⟨ad, e, fun j q hj => ?_⟩
  obtain ⟨cs, h1, h2, h3⟩ := hc j q hj
  refine ⟨cs, h1, h2, fun i u hi => ?_⟩
  have h4 := h3 i u hi
  have hb : (ad.add (j * (Kd.int k).sz + i)).block = ad.block := by
    unfold Addr.add
    split <;> rfl
  have h5 := hs ad e
  rw [← hb] at h5
  simpa [World.cell?, h5] using h4
structure Dsk (w : World) (p : Nat) (A : Option Addr) (c : Nat) (b : List Int) (s z : Nat) : Prop where
  blk : w.heap[p]? = some (.cells #[.slice A b.length c, .int .i64 (s : Int), .int .i64 (z : Int)] 51 (0, 0))
  le : b.length ≤ c
  C : Kd.C (Kd.int .u8) w A b.length b
  ty : ∀ ad, A = some ad → ∃ cs : Array Value, w.heap[ad.block]? = some (.cells cs 5 (0, 0))
  fit : b.length ≤ z
  most : z ≤ 1048576
  safe : s ≤ b.length
/-- A disk's bytes, how many are safe, its size. -/
def DiskAt (w : World) (p : Nat) (b : List Int) (s z : Nat) : Prop := ∃ A c, Dsk w p A c b s z
theorem Dsk.lt {w : World} {p : Nat} {A : Option Addr} {c : Nat} {b : List Int} {s z : Nat} (h : Dsk w p A c b s z) : p < w.heap.size := blk_lt h.blk
theorem Dsk.grown {w w1 : World} {p : Nat} {A : Option Addr} {c : Nat} {b : List Int} {s z : Nat} (h : Dsk w p A c b s z) {row : Option Nat} (hg : w.grownBy w1 row) (hr : ∀ k, row = some k → k ≠ p ∧ ∀ cs : Array Value, w.heap[k]? ≠ some (.cells cs 5 (0, 0))) : Dsk w1 p A c b s z := by
  have hs : ∀ ad, A = some ad → w1.heap[ad.block]? = w.heap[ad.block]? := fun ad e => by
    obtain ⟨cs, hb⟩ := h.ty ad e
    exact hg.block _ (blk_lt hb) fun e2 => (hr ad.block e2.symm).2 cs hb
  refine ⟨?_, h.le, C_same h.C hs, fun ad e => ?_, h.fit, h.most, h.safe⟩
  · rw [hg.block p h.lt fun e2 => (hr p e2.symm).1 rfl]
    exact h.blk
  · obtain ⟨cs, hb⟩ := h.ty ad e
    exact ⟨cs, (hs ad e).trans hb⟩
theorem Dsk.below {w w1 : World} {p : Nat} {A : Option Addr} {c : Nat} {b : List Int} {s z : Nat} (h : Dsk w p A c b s z) (hb : Below w.heap.size w w1) : Dsk w1 p A c b s z :=
  h.grown (row := none) (grown_of_below hb none) (fun k hk => by cases hk)
theorem DiskAt.below {w w1 : World} {p : Nat} {b : List Int} {s z : Nat} (h : DiskAt w p b s z) (hb : Below w.heap.size w w1) : DiskAt w1 p b s z := by
  obtain ⟨A, c, h⟩ := h
  exact ⟨A, c, h.below hb⟩
theorem Dsk.c0 {w : World} {p : Nat} {A : Option Addr} {c : Nat} {b : List Int} {s z : Nat} (h : Dsk w p A c b s z) : w.cell? ⟨p, 0, none⟩ = some (.slice A b.length c) := by rw [blk_cell h.blk]; rfl
theorem Dsk.c1 {w : World} {p : Nat} {A : Option Addr} {c : Nat} {b : List Int} {s z : Nat} (h : Dsk w p A c b s z) : w.cell? ⟨p, 1, none⟩ = some (.int .i64 (s : Int)) := by rw [blk_cell h.blk]; rfl
theorem Dsk.c2 {w : World} {p : Nat} {A : Option Addr} {c : Nat} {b : List Int} {s z : Nat} (h : Dsk w p A c b s z) : w.cell? ⟨p, 2, none⟩ = some (.int .i64 (z : Int)) := by rw [blk_cell h.blk]; rfl
theorem room_calls (p : Nat) (b : List Int) (s z : Nat) (w : World) (h : DiskAt w p b s z) : Calls Try.prog 15 #[.pointer (some ⟨p, 0, none⟩)] w fun e w' => e = .returned (.int .i64 ((z : Int) - (b.length : Int))) ∧ Drawn0 w w' := by
  obtain ⟨A, c, h⟩ := h
  have x0 := h.c0
  have x2 := h.c2
  have hf := h.fit
  have hm := h.most
  clear h
  go_enter Try.func15, Try.ntmps15
  go_wp2
  go_quiet (fail)
  go_wp2
  go_ret
  exact ⟨rfl, ⟨_, rfl⟩⟩
theorem safe_calls (p : Nat) (b : List Int) (s z : Nat) (w : World) (h : DiskAt w p b s z) : Calls Try.prog 20 #[.pointer (some ⟨p, 0, none⟩)] w fun e w' => e = .returned (.int .i64 (s : Int)) ∧ Drawn0 w w' := by
  obtain ⟨A, c, h⟩ := h
  have x1 := h.c1
  clear h
  go_enter Try.func20, Try.ntmps20
  go_wp2
  go_ret
  exact ⟨rfl, ⟨0, rfl⟩⟩
theorem new_calls (z : Int) (w : World) (h : 0 ≤ z ∧ z ≤ 1048576) : Calls Try.prog 10 #[.int .i64 z] w fun e w' => ∃ p, e = .returned (.pointer (some ⟨p, 0, none⟩)) ∧ w.heap.size ≤ p ∧ DiskAt w' p [] 0 z.toNat ∧ Below w.heap.size w w' := by
  have d1 : decide (z < 0) = false := decide_eq_false (by omega)
  have d2 : decide (1048576 < z) = false := decide_eq_false (by omega)
  go_enter Try.func10, Try.ntmps10
  go_wp2
  go_ret
  refine ⟨w.heap.size, rfl, Nat.le_refl _, ⟨none, 0, ⟨?_, by simp, Kd.C_nil _ _, (fun ad e => by cases e), by simp, by omega, by simp⟩⟩, below_alloc (Below.refl _ _) _⟩
  have e : ((z.toNat : Nat) : Int) = z := by omega
  rw [e]
  exact blk_new _ _
theorem new_none (z : Int) (w : World) (h : z < 0 ∨ 1048576 < z) : Calls Try.prog 10 #[.int .i64 z] w fun e w' => e = .returned (.pointer none) ∧ Drawn0 w w' := by
  by_cases h1 : z < 0
  · have d1 : decide (z < 0) = true := decide_eq_true (by omega)
    go_enter Try.func10, Try.ntmps10
    go_wp2
    go_ret
    exact ⟨rfl, ⟨0, rfl⟩⟩
  · have d1 : decide (z < 0) = false := decide_eq_false (by omega)
    have d2 : decide (1048576 < z) = true := decide_eq_true (by omega)
    go_enter Try.func10, Try.ntmps10
    go_wp2
    go_ret
    exact ⟨rfl, ⟨0, rfl⟩⟩
theorem info5 : (Try.prog.info? 5).map (fun i => (i.zero, i.size, i.bytes)) = some (some (.int .u8 0), 1, 1) := by kernel_rfl
/-- Bytes that are a block of their own. -/
def OwnBytes (w : World) (g : Nat) (b : List Int) : Prop := w.heap[g]? = some (.cells (nums .u8 b).toArray 5 (0, 0))
theorem OwnBytes.reads {w : World} {g : Nat} {b : List Int} (h : OwnBytes w g b) (hm : b.length ≤ 9223372036854775807) : Kd.C (Kd.int .u8) w (some ⟨g, 0, none⟩) b.length b :=
  C_of_block (off := 0) h (fun i hi => by simp [nums, hi]) hm
theorem OwnBytes.below {w w1 : World} {g : Nat} {b : List Int} (h : OwnBytes w g b) (hb : Below w.heap.size w w1) : OwnBytes w1 g b := blk_below h hb
theorem nums_one (b : List Int) : ∀ v ∈ nums .u8 b, v.oneCell' = true := by
  intro v hv
  simp only [nums, List.mem_map] at hv
  obtain ⟨x, _, rfl⟩ := hv
  rfl
theorem C_cells {w : World} {A : Option Addr} {b : List Int} (h : Kd.C (Kd.int .u8) w A b.length b) (hp : 0 < b.length) : ∃ ad, A = some ad ∧ ∀ j v, (nums .u8 b)[j]? = some v → w.cell? (ad.add j) = some v := by
  obtain ⟨ad, e, _⟩ := at_nat h 0 hp
  refine ⟨ad, e, fun j v hv => ?_⟩
  have hj : j < b.length := by have := (List.getElem?_eq_some_iff.1 hv).1; simpa [nums] using this
  obtain ⟨ad', e', hx⟩ := at_nat h j hj
  rw [e] at e'
  cases e'
  rw [hx]
  have : (nums .u8 b)[j]? = some (.int .u8 (b.getD j 0)) := by simp [nums, hj]
  rw [this] at hv
  exact hv
theorem splice_take (b : List Int) (n : Nat) (h : n ≤ b.length) : splice (List.replicate n (Value.int .u8 0)) 0 (nums .u8 (b.take n)) = nums .u8 (b.take n) := by
  have : (nums .u8 (b.take n)).length = n := by simp [nums]; omega
  simp [splice, this]
theorem copy_event {ops : Array Oper} {rest : List Oper} {o : Oper} {a : Act} {Q : Exit → Act → World → Prop} {W : World} (hgd : o.guard = none) (d s : Operand) (ho : o.op = .call { callee := .builtin .copy, args := #[d, s], argTypes := #[26, 26] })
    (g n c1 : Nat) (hd : a.eval d = .slice (some ⟨g, 0, none⟩) n c1) (A : Option Addr) (c : Nat) (b : List Int) (hs : a.eval s = .slice A b.length c) (hg : W.heap[g]? = some (.cells (List.replicate n (Value.int .u8 0)).toArray 5 (0, 0))) (hC : Kd.C (Kd.int .u8) W A b.length b) (hn : n ≤ b.length)
    {B : Nat} {w0 : World} (HB : Below B w0 W) (hBg : B ≤ g) (h : ∀ w', Aside0 (OwnBytes w' g (b.take n)) → Below B w0 w' → wpList Try.prog ops Q rest (a.put o.dst (goInt (n : Nat))) w') : wpList Try.prog ops Q (o :: rest) a W := by
  have hlen : (nums .u8 (b.take n)).length = n := by simp [nums]; omega
  refine wpList_copy_splice hgd d s 26 26 ho 5 Try.underlying26 (by kernel_rfl) _ _ _ _ _ _ hd hs g 0 (List.replicate n (.int .u8 0)) 5 hg (nums .u8 (b.take n)) ?_ ?_ ?_ (nums_one _) B w0 HB hBg ?_
  · rw [hlen]; exact (Nat.min_eq_right hn).symm
  · intro hp
    rw [hlen] at hp
    obtain ⟨ad, e, hx⟩ := C_cells hC (by omega)
    refine ⟨rfl, ad, e, fun j v hv => hx j v ?_⟩
    have : j < n := by have := (List.getElem?_eq_some_iff.1 hv).1; omega
    simp only [nums, List.map_take] at hv ⊢
    rw [List.getElem?_take_of_lt this] at hv
    exact hv
  · simp [hlen]
  · intro w' hk hb
    rw [hlen]
    refine h w' ⟨?_⟩ hb
    have := hk.out
    rw [splice_take b n hn] at this
    exact this
theorem bytes_calls (p : Nat) (b : List Int) (s z : Nat) (w : World) (h : DiskAt w p b s z) : Calls Try.prog 13 #[.pointer (some ⟨p, 0, none⟩)] w fun e w' => ∃ g, e = .returned (.slice (some ⟨g, 0, none⟩) b.length b.length) ∧ w.heap.size ≤ g ∧ OwnBytes w' g b ∧ Below w.heap.size w w' := by
  obtain ⟨A, c, h⟩ := h
  have HD := Aside0.mk h
  have x0 := h.c0
  have hf := h.fit
  have hm := h.most
  clear h
  go_enter Try.func13, Try.ntmps13
  go_wp2_with (first | ((with_reducible refine gate_dst (N := 11) rfl ?_); refine make_event rfl (N := 11) rfl 26 _ _ rfl .i64 .i64 b.length b.length rfl rfl (Nat.le_refl _) 5 (.int .u8 0) 1 Try.underlying26 info5 rfl (by omega) (by omega) ?_; intro g hg w1 hk1 hb1; have x0 := (HD.out.below hb1).c0; have HK1 := Aside0.mk hk1; have HB1 := Aside0.mk hb1; have HG := Aside0.mk hg; clear hk1 hb1 hg) | ((with_reducible refine gate_dst (N := 17) rfl ?_); refine copy_event rfl _ _ rfl g b.length b.length rfl A c b rfl HK1.out (HD.out.below HB1.out).C (Nat.le_refl _) HB1.out (Nat.le_of_eq HG.out.symm) ?_; intro w2 hk2 hb2; have HB2 := Aside0.mk hb2; clear hb2))
  go_ret
  refine ⟨g, rfl, Nat.le_of_eq HG.out.symm, ?_, HB2.out⟩
  have := hk2.out
  rw [List.take_length] at this
  exact this
theorem setD {w : World} {p : Nat} {cs : Array Value} {t : TypeId} (h : w.heap[p]? = some (.cells cs t (0, 0))) (j : Nat) (v : Value) : (w.setCell ⟨p, j, none⟩ v).heap[p]? = some (.cells (cs.setIfInBounds j v) t (0, 0)) := by simp [World.setCell, Array.getElem?_modify, h]
theorem grown_set (w : World) (p j : Nat) (v : Value) : w.grownBy (w.setCell ⟨p, j, none⟩ v) (some p) :=
  ⟨rfl, rfl, rfl, by simp [World.setCell], fun k hk hne => Below.heap_setCell _ _ _ _ (fun e => hne (by rw [e]))⟩
theorem Dsk.turn {w w1 : World} {p : Nat} {A : Option Addr} {c : Nat} {b : List Int} {s z : Nat} (h : Dsk w p A c b s z) (hg : w.grownBy w1 (some p)) {A' : Option Addr} {c' : Nat} {b' : List Int} {s' : Nat}
    (hblk : w1.heap[p]? = some (.cells #[.slice A' b'.length c', .int .i64 (s' : Int), .int .i64 (z : Int)] 51 (0, 0))) (hle : b'.length ≤ c') (hC : Kd.C (Kd.int .u8) w A' b'.length b') (hty : ∀ ad, A' = some ad → ∃ cs : Array Value, w.heap[ad.block]? = some (.cells cs 5 (0, 0))) (hf : b'.length ≤ z) (hs : s' ≤ b'.length) : DiskAt w1 p b' s' z := by
  have hk : ∀ ad, A' = some ad → w1.heap[ad.block]? = w.heap[ad.block]? := fun ad e => by
    obtain ⟨cs, hb⟩ := hty ad e
    refine hg.block _ (blk_lt hb) fun e2 => ?_
    injection e2 with e2
    rw [e2, h.blk] at hb
    injection hb with hb
    injection hb with _ e5
    exact absurd e5 (by decide)
  exact ⟨A', c', hblk, hle, C_same hC hk, fun ad e => by obtain ⟨cs, hb⟩ := hty ad e; exact ⟨cs, (hk ad e).trans hb⟩, hf, h.most, hs⟩
theorem sync_calls (p : Nat) (b : List Int) (s z : Nat) (w : World) (h : DiskAt w p b s z) : Calls Try.prog 23 #[.pointer (some ⟨p, 0, none⟩)] w fun e w' => e = .returned (.tuple #[]) ∧ DiskAt w' p b b.length z ∧ w.grownBy w' (some p) := by
  obtain ⟨A, c, h⟩ := h
  have HD := Aside0.mk h
  have x0 := h.c0
  have x1 := h.c1
  have f1 := blk_frozen h.blk 1
  clear h
  go_enter Try.func23, Try.ntmps23
  go_wp2
  go_end0
  exact ⟨rfl, HD.out.turn (grown_set _ _ _ _) (setD HD.out.blk 1 _) HD.out.le HD.out.C HD.out.ty HD.out.fit (Nat.le_refl _), grown_set _ _ _ _⟩
end Go.Proofs.Ytpaphcoloogdlaa.Dk
