/- A disk whose array keeps away from some blocks: Append, Replace. -/
import Derived.Test.YtpaphcoloogdlaaDkF
namespace Go.Proofs.Ytpaphcoloogdlaa.Dk
open Go.RowKit Go.Proofs.YtpaphcoloogdlaaW.PrintWords Go.Proofs.YtpaphcoloogdlaaW.PrintLast Go.Proofs.YtpaphcoloogdlaaW.PrintMore Go.Proofs.Ytpaphcoloogdlaa.Kit
set_option linter.unusedVariables false
set_option linter.unusedSimpArgs false
/-- A row's block is none of these. -/
def Away (X : Nat → Prop) (A : Option Addr) : Prop := ∀ ad, A = some ad → ¬ X ad.block
def DiskX (X : Nat → Prop) (w : World) (p : Nat) (b : List Int) (s z : Nat) : Prop := ∃ A c, Dsk w p A c b s z ∧ Away X A
theorem DiskX.at_ {X : Nat → Prop} {w : World} {p : Nat} {b : List Int} {s z : Nat} (h : DiskX X w p b s z) : DiskAt w p b s z := by
  obtain ⟨A, c, h, _⟩ := h
  exact ⟨A, c, h⟩
theorem DiskX.below {X : Nat → Prop} {w w1 : World} {p : Nat} {b : List Int} {s z : Nat} (h : DiskX X w p b s z) (hb : Below w.heap.size w w1) : DiskX X w1 p b s z := by
  obtain ⟨A, c, h, ha⟩ := h
  exact ⟨A, c, h.below hb, ha⟩
/-- What is not there yet is not its row. -/
theorem DiskAt.fresh {X : Nat → Prop} {w : World} {p : Nat} {b : List Int} {s z : Nat} (h : DiskAt w p b s z) (hX : ∀ k, X k → w.heap.size ≤ k) : DiskX X w p b s z := by
  obtain ⟨A, c, h⟩ := h
  refine ⟨A, c, h, fun ad e hx => ?_⟩
  obtain ⟨cs, hc⟩ := h.ty ad e
  have := blk_lt hc
  have := hX _ hx
  omega
/-- A block that is none of its own is written. -/
theorem DiskX.grown {X : Nat → Prop} {w w1 : World} {p g : Nat} {b : List Int} {s z : Nat} (h : DiskX X w p b s z) (hg : w.grownBy w1 (some g)) (hp : g ≠ p) (hX : X g) : DiskX X w1 p b s z := by
  obtain ⟨A, c, h, ha⟩ := h
  have hs : ∀ ad, A = some ad → w1.heap[ad.block]? = w.heap[ad.block]? := fun ad e => by
    obtain ⟨cs, hb⟩ := h.ty ad e
    exact hg.block _ (blk_lt hb) fun e2 => by injection e2 with e2; exact ha ad e (e2 ▸ hX)
  refine ⟨A, c, ⟨?_, h.le, C_same h.C hs, fun ad e => ?_, h.fit, h.most, h.safe⟩, ha⟩
  · rw [hg.block p h.lt fun e2 => by injection e2 with e2; exact hp e2.symm]
    exact h.blk
  · obtain ⟨cs, hb⟩ := h.ty ad e
    exact ⟨cs, (hs ad e).trans hb⟩
theorem Dsk.turnX {X : Nat → Prop} {w w1 : World} {p : Nat} {A : Option Addr} {c : Nat} {b : List Int} {s z : Nat} {A' : Option Addr} (ha : Away X A') (h : Dsk w p A c b s z) (hg : w.grownBy w1 (some p)) {c' : Nat} {b' : List Int} {s' : Nat}
    (hblk : w1.heap[p]? = some (.cells #[.slice A' b'.length c', .int .i64 (s' : Int), .int .i64 (z : Int)] 51 (0, 0))) (hle : b'.length ≤ c') (hC : Kd.C (Kd.int .u8) w A' b'.length b') (hty : ∀ ad, A' = some ad → ∃ cs : Array Value, w.heap[ad.block]? = some (.cells cs 5 (0, 0))) (hf : b'.length ≤ z) (hs : s' ≤ b'.length) : DiskX X w1 p b' s' z := by
  have hk : ∀ ad, A' = some ad → w1.heap[ad.block]? = w.heap[ad.block]? := fun ad e => by
    obtain ⟨cs, hb⟩ := hty ad e
    refine hg.block _ (blk_lt hb) fun e2 => ?_
    injection e2 with e2
    rw [e2, h.blk] at hb
    injection hb with hb
    injection hb with _ e5
    exact absurd e5 (by decide)
  exact ⟨A', c', ⟨hblk, hle, C_same hC hk, fun ad e => by obtain ⟨cs, hb⟩ := hty ad e; exact ⟨cs, (hk ad e).trans hb⟩, hf, h.most, hs⟩, ha⟩
/-- append(b[:n:n], more...), as a step of a region that draws its order. -/
theorem step_append_diskX {ops : Array Oper} {o : Oper} {a : Act} {w : World} {K : Act → World → Prop} {Q : Exit → Act → World → Prop} {E : Prop} (hg : o.guard = none) (s x : Operand)
    (hop : o.op = Op.call { callee := Callee.builtin Builtin.append, args := #[s, x], argTypes := #[26, 26] }) (A' : Option Addr) (b : List Int) (hs : a.eval s = .slice A' b.length b.length) (A1 : Option Addr) (b1 : List Int) (c : Nat) (hx : a.eval x = .slice A1 b1.length c)
    (HA : AnyRow w A' b.length b) (HC1 : Kd.C (Kd.int .u8) w A1 b1.length b1) (hl : b.length + b1.length ≤ 1000000000) (X : Nat → Prop) (hX : ∀ k, X k → k < w.heap.size) (hA0 : Away X A')
    (hK : ∀ A2 c2 w', Aside0 (AnyRow w' A2 c2 (b ++ b1)) → Away X A2 → Below w.heap.size w w' → K (a.put o.dst (.slice A2 (b ++ b1).length c2)) w') :
    if Region.wanted o (yielded ops a.tmps) = true then Oper.wp Try.prog o a w K Q else E := by
  obtain ⟨i5, hi5, hz5, hs5, hb5⟩ := info_parts info5
  by_cases h0 : b1.length = 0
  · have e1 : b1 = [] := List.eq_nil_of_length_eq_zero h0
    subst e1
    have hw : Region.wanted o (yielded ops a.tmps) = true := by simp [Region.wanted, hg]
    rw [if_pos hw]
    have hsrc : Src Try.prog i5.size 26 (.slice A1 0 c) 0 [] w := by
      rcases A1 with _ | ad
      · exact Src.ofNil w Try.underlying26 c
      · exact Src.ofSlice w Try.underlying26 ad 0 c [] (by simp) (fun j u h => by simp at h) (fun u h => by simp at h)
    have hrun := run_append_nothing (P := Try.prog) w 26 26 o.type 5 i5 Try.underlying26 hi5 A' b.length b.length (Nat.le_refl _) (.slice A1 0 c) hsrc
    have hx' : a.eval x = .slice A1 0 c := hx
    unfold Oper.wp
    simp [execOp, hop, resolve, invoke, builtin, hs, hx', hrun, Result.andThen]
    have := hK A' b.length w ⟨by rw [List.append_nil]; exact HA⟩ hA0 (Below.refl _ _)
    rw [List.append_nil] at this
    exact this
  · obtain ⟨ad1, e1, hx1⟩ := C_cells HC1 (by omega)
    subst e1
    refine step_append_grows (P := Try.prog) hg s x 26 hop 5 i5 (.int .u8 0) 1 1 Try.underlying26 hi5 hz5 hs5 hb5 rfl (by decide) A' b.length b.length (nums .u8 b) hs (fun e => ?_) (by simp [nums]) (fun ad e j u hu => ?_) ad1 b1.length c (nums .u8 b1) hx (by simp [nums]) hx1 (nums_one b1) (by omega) (by unfold maxLen; omega) (by omega) (fun v' w' ho hgr => ?_)
    · have : b.length = 0 := by
        rcases Nat.eq_zero_or_pos b.length with h | h
        · exact h
        · obtain ⟨ad, e', _⟩ := C_cells HA.2.1 h
          rw [e] at e'
          cases e'
      exact ⟨this, this⟩
    · have hj := nums_get hu
      obtain ⟨ad', e', hh⟩ := C_cells HA.2.1 (by omega)
      rw [e] at e'
      cases e'
      exact hh j u hu
    · have hbel : Below w.heap.size w w' := ⟨hgr.os, hgr.tape, hgr.output, hgr.size, fun k hk => hgr.block k hk (by simp)⟩
      have hn : nums .u8 b ++ nums .u8 b1 = nums .u8 (b ++ b1) := by simp [nums]
      rw [hn] at ho
      rcases ho.2 with ⟨rfl, h00⟩ | ⟨g, cap, cur, rfl, hgg, hh, hcap, _, hsz, ht⟩
      · omega
      · have hlen : (b ++ b1).length = b.length + b1.length := by simp
        have := hK (some ⟨g, 0, none⟩) cap w' ⟨by rw [hlen]; exact hcap, C_of_block (off := 0) hh (fun i hi => ?_) (by omega), fun ad e => by cases e; exact ⟨cur, hh⟩⟩ (fun ad e hx => by cases e; have := hX _ hx; simp at this; omega) hbel
        · rw [hlen] at this
          exact this
        · have e2 : (cur.toList.take (b ++ b1).length)[i]? = (nums .u8 (b ++ b1))[i]? := by
            have := congrArg (fun l : List Value => l[i]?) ht
            rw [hlen]
            simpa using this
          rw [List.getElem?_take_of_lt hi] at e2
          rw [Nat.zero_add, ← Array.getElem?_toList, e2]
          generalize b ++ b1 = L at *
          simp [nums, hi]
set_option maxHeartbeats 4000000 in
set_option maxRecDepth 100000 in
theorem append_x (X : Nat → Prop) (p : Nat) (b : List Int) (s z : Nat) (A1 : Option Addr) (b1 : List Int) (c1 : Nat) (w : World) (h : DiskX X w p b s z) (hX : ∀ k, X k → k < w.heap.size) (hC1 : Kd.C (Kd.int .u8) w A1 b1.length b1) (hn : b.length + b1.length ≤ z) :
    Calls Try.prog 12 #[.pointer (some ⟨p, 0, none⟩), .slice A1 b1.length c1] w fun e w' => e = .returned (.int .i64 0) ∧ DiskX X w' p (b ++ b1) s z ∧ w.grownBy w' (some p) := by
  have HD := Aside0.mk h.at_
  obtain ⟨A, c', h, haw⟩ := h
  have HK := Aside0.mk h
  have hf := h.fit
  have hz := h.most
  obtain ⟨A', hsl, hC', hA'⟩ := cut_hm h.C h.le b.length (Nat.le_refl _)
  have HSL := Aside0.mk hsl
  rw [List.take_length] at hC'
  have HA : Aside0 (AnyRow w A' b.length b) := ⟨Nat.le_refl _, hC', fun ad e => by
    obtain ⟨ad0, e0, e1⟩ := hA' ad e
    rw [e1]
    exact h.ty ad0 e0⟩
  have HAW' : Aside0 (Away X A') := ⟨fun ad e => by
    obtain ⟨ad0, e0, e1⟩ := hA' ad e
    rw [e1]
    exact haw ad0 e0⟩
  have HXX := Aside0.mk hX
  have HC1 := Aside0.mk hC1
  have x0 := h.c0
  have f0 := blk_frozen h.blk 0
  clear h hC' hA' hC1 hX haw
  have d1 : decide ((z : Int) - (b.length : Int) < (b1.length : Int)) = false := decide_eq_false (by omega)
  have hi : ∀ m, Below w.heap.size w (w.drewN m) := fun m => pw_below_drewN (Below.refl _ _) m
  go_enter Try.func12, Try.ntmps12
  go_wp2_with (go_at_call 15; (with_reducible refine (room_calls p b s z _ HD.out).mono ?_); rintro e w1 ⟨rfl, ⟨m1, rfl⟩⟩)
  generalize hW : World.drewN _ _ = W
  have HBW : Aside0 (Below w.heap.size w W) := by
    subst hW
    exact ⟨hi _⟩
  have x0 := cell_below0 x0 HBW.out
  have f0 : W.frozen? ⟨p, 0, none⟩ = false := blk_frozen (blk_below HK.out.blk HBW.out) 0
  clear hW hi
  have HBLK := Aside0.mk (blk_below HK.out.blk HBW.out)
  have HAW := Aside0.mk (HA.out.below HBW.out)
  have HCW := Aside0.mk (Kd.C_below HC1.out HBW.out)
  have HDW := Aside0.mk (HK.out.below HBW.out)
  clear hsl
  have hsl := HSL.out
  go_region_law (refine step_append_diskX rfl (.tmp 29) (.tmp 30) rfl A' b (by simp [Act.eval, Act.put]) A1 b1 c1 (by simp [Act.eval, Act.put]) ?hA ?hB (by omega) X ?hX HAW'.out ?_; (case hX => intro k hk; refine Nat.lt_of_lt_of_le (HXX.out k hk) (Nat.le_trans HBW.out.size ?_); refine Below.size (B := W.heap.size) (w := W) ?_; repeat (first | exact Below.refl _ _ | apply pw_below_drewN | apply below_drew1)); (case hA => first | exact HAW.out | (refine HAW.out.below ?_; repeat (first | exact Below.refl _ _ | apply pw_below_drewN | apply below_drew1))); (case hB => first | exact HCW.out | (refine Kd.C_below HCW.out ?_; repeat (first | exact Below.refl _ _ | apply pw_below_drewN | apply below_drew1))); intro A2 c2 w2 hr2 ha2 hb2; have HA2 := Aside0.mk ha2; clear ha2; have HB2 := Aside0.mk (below_then (show Below W.heap.size W _ by repeat (first | exact Below.refl _ _ | apply pw_below_drewN | apply below_drew1)) (Below.size (show Below W.heap.size W _ by repeat (first | exact Below.refl _ _ | apply pw_below_drewN | apply below_drew1))) hb2); clear hb2; have x2 := cell_below0 x0 HB2.out; have f2 := blk_frozen (blk_below HBLK.out HB2.out) 0)
  all_goals
    go_wp2
    go_ret
    have hgw : w.grownBy w2 (some p) := grown_of_below (below_then HBW.out HBW.out.size HB2.out) _
    have hlen : (b ++ b1).length = b.length + b1.length := by simp
    refine ⟨rfl, Dsk.turnX HA2.out (HDW.out.below HB2.out) (grown_set _ _ _ _) ?_ hr2.out.1 hr2.out.2.1 hr2.out.2.2 (by omega) (by have := HDW.out.safe; omega), hgw.trans (grown_set _ _ _ _)⟩
    rw [hlen]
    exact setD (blk_below HBLK.out HB2.out) 0 _
set_option maxHeartbeats 4000000 in
set_option maxRecDepth 100000 in
theorem replace_x (X : Nat → Prop) (p : Nat) (b : List Int) (s z : Nat) (A1 : Option Addr) (b1 : List Int) (c1 : Nat) (w : World) (h : DiskAt w p b s z) (hC1 : AnyRow w A1 c1 b1) (hn : b1.length ≤ z) (hX : ∀ k, X k → k < w.heap.size) :
    Calls Try.prog 25 #[.pointer (some ⟨p, 0, none⟩), .slice A1 b1.length c1] w fun e w' => e = .returned (.int .i64 0) ∧ DiskX X w' p b1 b1.length z ∧ w.grownBy w' (some p) := by
  obtain ⟨A, c', h⟩ := h
  have HK := Aside0.mk h
  have HC1 := Aside0.mk hC1
  have HXX := Aside0.mk hX
  have x0 := h.c0
  have x2 := h.c2
  have hz := h.most
  have hlt := h.lt
  have f0 := blk_frozen h.blk 0
  have f1 := blk_frozen h.blk 1
  clear h hC1 hX
  have d1 : decide (z < b1.length) = false := decide_eq_false (by omega)
  have d2 : decide ((z : Int) < (b1.length : Int)) = false := decide_eq_false (by omega)
  go_enter Try.func25, Try.ntmps25
  go_wp2_with (first | ((with_reducible refine gate_dst (N := 19) rfl ?_); refine make_event rfl (N := 19) rfl 26 _ _ rfl .i64 .i64 b1.length b1.length rfl rfl (Nat.le_refl _) 5 (.int .u8 0) 1 Try.underlying26 info5 rfl (by omega) (by omega) ?_; intro g hg w1 hk1 hb1; have x0 := (HK.out.below hb1).c0; have f0 := blk_frozen (HK.out.below hb1).blk 0; have f1 := blk_frozen (HK.out.below hb1).blk 1; have HK1 := Aside0.mk hk1; have HB1 := Aside0.mk hb1; have HG := Aside0.mk hg; clear hk1 hb1 hg) | ((with_reducible refine gate_dst (N := 28) rfl ?_); refine copy_event (w0 := w1.setCell ⟨p, 0, none⟩ (.slice (some ⟨g, 0, none⟩) b1.length b1.length)) (B := g) rfl _ _ rfl g b1.length b1.length rfl A1 c1 b1 rfl ((Below.heap_setCell _ _ _ _ (show g ≠ p by have := HG.out; omega)).trans HK1.out) (C_same (HC1.out.below HB1.out).2.1 (not_p (HC1.out.below HB1.out) (HK.out.below HB1.out).blk _)) (Nat.le_refl _) (Below.refl _ _) (Nat.le_refl _) ?_; intro w2 hk2 hb2; have HP2 := Aside0.mk ((hb2.block p (by have := HG.out; omega)).trans (setD (HK.out.below HB1.out).blk 0 (.slice (some ⟨g, 0, none⟩) b1.length b1.length))); have y1 : w2.cell? ⟨p, 1, none⟩ = some (.int .i64 (s : Int)) := (blk_cell HP2.out 1).trans rfl; have z1 := blk_frozen HP2.out 1; have HB2 := Aside0.mk hb2; clear hb2))
  go_ret
  have hg0 : w.grownBy w2 (some p) := gb_belowB (gb_set (grown_of_below HB1.out _) 0 _) HB2.out (Nat.le_of_eq HG.out.symm)
  have hpg : p ≠ g := by have := HG.out; omega
  have hb := HP2.out
  have hk := hk2.out
  rw [List.take_length] at hk
  have hgf : w.grownBy (w2.setCell ⟨p, 1, none⟩ (.int .i64 (b1.length : Int))) (some p) := gb_set hg0 1 _
  refine ⟨rfl, ⟨some ⟨g, 0, none⟩, b1.length, ⟨setD hb 1 _, Nat.le_refl _, C_same (hk.reads (by omega)) (fun ad e => ?_), fun ad e => ?_, hn, hz, Nat.le_refl _⟩, fun ad e hx => ?_⟩, hgf⟩
  · cases e
    exact Below.heap_setCell _ _ _ _ (fun e => hpg e.symm)
  · cases e
    exact ⟨_, (Below.heap_setCell _ _ _ _ (fun e => hpg e.symm)).trans hk⟩
  · cases e
    have := HXX.out _ hx
    have := HG.out
    simp at *
    omega
end Go.Proofs.Ytpaphcoloogdlaa.Dk
