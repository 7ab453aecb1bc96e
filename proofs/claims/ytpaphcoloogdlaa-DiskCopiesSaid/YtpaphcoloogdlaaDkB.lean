/- A disk's methods that turn it. -/
import Derived.Test.YtpaphcoloogdlaaDkA
import Derived.Deep.RegionLawGrows
import Derived.Deep.Upon
import Derived.Handy
namespace Go.Proofs.Ytpaphcoloogdlaa.Dk
open Go.RowKit Go.Proofs.YtpaphcoloogdlaaW.PrintWords Go.Proofs.YtpaphcoloogdlaaW.PrintLast Go.Proofs.YtpaphcoloogdlaaW.PrintMore Go.Proofs.Ytpaphcoloogdlaa.Kit
set_option linter.unusedVariables false
set_option linter.unusedSimpArgs false
theorem elem26 : Try.prog.elem 26 = 5 := by kernel_rfl
theorem sizeOf5 (u : World) : (sizeOf 5).run Try.prog u = .ok 1 u := by kernel_rfl
/-- b[:n:n]. -/
theorem cut_hm {w : World} {A : Option Addr} {c : Nat} {b : List Int} (hC : Kd.C (Kd.int .u8) w A b.length b) (hc : b.length ≤ c) (n : Nat) (hn : n ≤ b.length) :
    ∃ A', (∀ u, (Instr.slice 26 (.slice A b.length c) none (some (.int .i64 (n : Int))) (some (.int .i64 (n : Int)))).run Try.prog u = .ok (.slice A' n n) u) ∧ Kd.C (Kd.int .u8) w A' (b.take n).length (b.take n) ∧ (∀ ad', A' = some ad' → ∃ ad, A = some ad ∧ ad'.block = ad.block) := by
  have h1 := Kd.C_take hC hn
  have hlen : (b.take n).length = n := by simp; omega
  have h2 := Kd.C_drop (c := n) h1 (show 0 ≤ (b.take n).length by omega) (by omega)
  refine ⟨_, fun u => ?_, h2, fun ad' e => ?_⟩
  · rw [run_slice_hm (w := u) (t := 26) (a := A) (len := b.length) (cap := c) (by rw [elem26]; exact Try.underlying26) .i64 .i64 _ _ (by omega) (by omega) (by omega), elem26, sizeOf5]
    simp only [Result.andThen, sliced, Int.toNat_natCast, Nat.sub_zero]
    rfl
  · split at e
    · exact ⟨ad', e, rfl⟩
    · rcases A with _ | ad
      · simp at e
      · refine ⟨ad, rfl, ?_⟩
        simp only [Option.map_some, Option.some.injEq] at e
        subst e
        unfold Addr.add
        split <;> rfl
theorem cell_below0 {w w1 : World} {ad : Addr} {v : Value} (h : w.cell? ad = some v) (hb : Below w.heap.size w w1) : w1.cell? ad = some v := by
  have hlt : ad.block < w.heap.size := by
    rcases Nat.lt_or_ge ad.block w.heap.size with h1 | h1
    · exact h1
    · simp [World.cell?, Array.getElem?_eq_none h1] at h
  have := hb.block _ hlt
  simpa [World.cell?, this] using h
theorem append_nil (A1 : Option Addr) (n c : Nat) (w : World) : Calls Try.prog 12 #[.pointer none, .slice A1 n c] w fun e w' => e = .returned (.int .i64 1) ∧ Drawn0 w w' := by
  go_enter Try.func12, Try.ntmps12
  go_wp2
  go_ret
  exact ⟨rfl, ⟨0, rfl⟩⟩
theorem sync_nil (w : World) : Calls Try.prog 23 #[.pointer none] w fun e w' => e = .returned (.tuple #[]) ∧ Drawn0 w w' := by
  go_enter Try.func23, Try.ntmps23
  go_wp2
  go_returns
  exact ⟨rfl, ⟨0, rfl⟩⟩
theorem crash_nil (k t y : Int) (w : World) : Calls Try.prog 21 #[.pointer none, .int .i64 k, .int .i64 t, .int .u8 y] w fun e w' => e = .returned (.tuple #[]) ∧ Drawn0 w w' := by
  go_enter Try.func21, Try.ntmps21
  go_wp2
  go_returns
  exact ⟨rfl, ⟨0, rfl⟩⟩
theorem cut_nil (n : Int) (w : World) : Calls Try.prog 24 #[.pointer none, .int .i64 n] w fun e w' => e = .returned (.int .i64 1) ∧ Drawn0 w w' := by
  go_enter Try.func24, Try.ntmps24
  go_wp2
  go_ret
  exact ⟨rfl, ⟨0, rfl⟩⟩
theorem replace_nil (A1 : Option Addr) (n c : Nat) (w : World) : Calls Try.prog 25 #[.pointer none, .slice A1 n c] w fun e w' => e = .returned (.int .i64 1) ∧ Drawn0 w w' := by
  go_enter Try.func25, Try.ntmps25
  go_wp2
  go_ret
  exact ⟨rfl, ⟨0, rfl⟩⟩
theorem copy_nil (w : World) : Calls Try.prog 22 #[.pointer none] w fun e w' => e = .returned (.pointer none) ∧ Drawn0 w w' := by
  go_enter Try.func22, Try.ntmps22
  go_wp2
  go_ret
  exact ⟨rfl, ⟨0, rfl⟩⟩
theorem bytes_nil (w : World) : Calls Try.prog 13 #[.pointer none] w fun e w' => e = .returned (.slice none 0 0) ∧ Drawn0 w w' := by
  go_enter Try.func13, Try.ntmps13
  go_wp2
  go_ret
  exact ⟨rfl, ⟨0, rfl⟩⟩
theorem safe_nil (w : World) : Calls Try.prog 20 #[.pointer none] w fun e w' => e = .returned (.int .i64 0) ∧ Drawn0 w w' := by
  go_enter Try.func20, Try.ntmps20
  go_wp2
  go_ret
  exact ⟨rfl, ⟨0, rfl⟩⟩
theorem room_nil (w : World) : Calls Try.prog 15 #[.pointer none] w fun e w' => e = .returned (.int .i64 0) ∧ Drawn0 w w' := by
  go_enter Try.func15, Try.ntmps15
  go_wp2
  go_ret
  exact ⟨rfl, ⟨0, rfl⟩⟩
theorem append_full (p : Nat) (b : List Int) (s z : Nat) (A1 : Option Addr) (n c : Nat) (w : World) (h : DiskAt w p b s z) (hn : z < b.length + n) (hm : n ≤ 9223372036854775807) :
    Calls Try.prog 12 #[.pointer (some ⟨p, 0, none⟩), .slice A1 n c] w fun e w' => e = .returned (.int .i64 7) ∧ Drawn0 w w' := by
  have HD := Aside0.mk h
  obtain ⟨A, c', h⟩ := h
  have hf := h.fit
  have hz := h.most
  clear h
  have d1 : decide ((z : Int) - (b.length : Int) < (n : Int)) = true := decide_eq_true (by omega)
  go_enter Try.func12, Try.ntmps12
  go_wp2_with (go_at_call 15; (with_reducible refine (room_calls p b s z _ HD.out).mono ?_); rintro e w1 ⟨rfl, ⟨m1, rfl⟩⟩)
  go_ret
  exact ⟨rfl, ⟨_, rfl⟩⟩
def AnyRow (w : World) (A : Option Addr) (c : Nat) (b : List Int) : Prop := b.length ≤ c ∧ Kd.C (Kd.int .u8) w A b.length b ∧ ∀ ad, A = some ad → ∃ cs : Array Value, w.heap[ad.block]? = some (.cells cs 5 (0, 0))
theorem nums_get {b : List Int} {j : Nat} {u : Value} (h : (nums .u8 b)[j]? = some u) : j < b.length := by
  have := (List.getElem?_eq_some_iff.1 h).1
  simpa [nums] using this
/-- append(b[:n:n], more...), as a step of a region that draws its order. -/
theorem step_append_disk {ops : Array Oper} {o : Oper} {a : Act} {w : World} {K : Act → World → Prop} {Q : Exit → Act → World → Prop} {E : Prop} (hg : o.guard = none) (s x : Operand)
    (hop : o.op = Op.call { callee := Callee.builtin Builtin.append, args := #[s, x], argTypes := #[26, 26] }) (A' : Option Addr) (b : List Int) (hs : a.eval s = .slice A' b.length b.length) (A1 : Option Addr) (b1 : List Int) (c : Nat) (hx : a.eval x = .slice A1 b1.length c)
    (HA : AnyRow w A' b.length b) (HC1 : Kd.C (Kd.int .u8) w A1 b1.length b1) (hl : b.length + b1.length ≤ 1000000000)
    (hK : ∀ A2 c2 w', Aside0 (AnyRow w' A2 c2 (b ++ b1)) → Below w.heap.size w w' → K (a.put o.dst (.slice A2 (b ++ b1).length c2)) w') :
    if Region.wanted o (yielded ops a.tmps) = true then Oper.wp Try.prog o a w K Q else E := by
  obtain ⟨i5, hi5, hz5, hs5, hb5⟩ := info_parts info5
  by_cases h0 : b1.length = 0
  · have e1 : b1 = [] := List.eq_nil_of_length_eq_zero h0
    subst e1
    have hw : Region.wanted o (yielded ops a.tmps) = true := by simp [Region.wanted, hg]
    rw [if_pos hw]
    have hsrc : Src Try.prog i5.size 26 (.slice A1 0 c) 0 [] w := by
      rcases A1 with _ | ad
      · exact Src.ofNil w Try.underlying26 c
      · exact Src.ofSlice w Try.underlying26 ad 0 c [] (by simp) (fun j u h => by simp at h) (fun u h => by simp at h)
    have hrun := run_append_nothing (P := Try.prog) w 26 26 o.type 5 i5 Try.underlying26 hi5 A' b.length b.length (Nat.le_refl _) (.slice A1 0 c) hsrc
    have hx' : a.eval x = .slice A1 0 c := hx
    unfold Oper.wp
    simp [execOp, hop, resolve, invoke, builtin, hs, hx', hrun, Result.andThen]
    have := hK A' b.length w ⟨by rw [List.append_nil]; exact HA⟩ (Below.refl _ _)
    rw [List.append_nil] at this
    exact this
  · obtain ⟨ad1, e1, hx1⟩ := C_cells HC1 (by omega)
    subst e1
    refine step_append_grows (P := Try.prog) hg s x 26 hop 5 i5 (.int .u8 0) 1 1 Try.underlying26 hi5 hz5 hs5 hb5 rfl (by decide) A' b.length b.length (nums .u8 b) hs (fun e => ?_) (by simp [nums]) (fun ad e j u hu => ?_) ad1 b1.length c (nums .u8 b1) hx (by simp [nums]) hx1 (nums_one b1) (by omega) (by unfold maxLen; omega) (by omega) (fun v' w' ho hgr => ?_)
    · have : b.length = 0 := by
        rcases Nat.eq_zero_or_pos b.length with h | h
        · exact h
        · obtain ⟨ad, e', _⟩ := C_cells HA.2.1 h
          rw [e] at e'
          cases e'
      exact ⟨this, this⟩
    · have hj := nums_get hu
      obtain ⟨ad', e', hh⟩ := C_cells HA.2.1 (by omega)
      rw [e] at e'
      cases e'
      exact hh j u hu
    · have hbel : Below w.heap.size w w' := ⟨hgr.os, hgr.tape, hgr.output, hgr.size, fun k hk => hgr.block k hk (by simp)⟩
      have hn : nums .u8 b ++ nums .u8 b1 = nums .u8 (b ++ b1) := by simp [nums]
      rw [hn] at ho
      rcases ho.2 with ⟨rfl, h00⟩ | ⟨g, cap, cur, rfl, hgg, hh, hcap, _, hsz, ht⟩
      · omega
      · have hlen : (b ++ b1).length = b.length + b1.length := by simp
        have := hK (some ⟨g, 0, none⟩) cap w' ⟨by rw [hlen]; exact hcap, C_of_block (off := 0) hh (fun i hi => ?_) (by omega), fun ad e => by cases e; exact ⟨cur, hh⟩⟩ hbel
        · rw [hlen] at this
          exact this
        · have e2 : (cur.toList.take (b ++ b1).length)[i]? = (nums .u8 (b ++ b1))[i]? := by
            have := congrArg (fun l : List Value => l[i]?) ht
            rw [hlen]
            simpa using this
          rw [List.getElem?_take_of_lt hi] at e2
          rw [Nat.zero_add, ← Array.getElem?_toList, e2]
          generalize b ++ b1 = L at *
          simp [nums, hi]
theorem AnyRow.below {w w1 : World} {A : Option Addr} {c : Nat} {b : List Int} (h : AnyRow w A c b) (hb : Below w.heap.size w w1) : AnyRow w1 A c b :=
  ⟨h.1, Kd.C_below h.2.1 hb, fun ad e => by obtain ⟨cs, hc⟩ := h.2.2 ad e; exact ⟨cs, blk_below hc hb⟩⟩
set_option maxHeartbeats 4000000 in
set_option maxRecDepth 100000 in
theorem append_calls (p : Nat) (b : List Int) (s z : Nat) (A1 : Option Addr) (b1 : List Int) (c1 : Nat) (w : World) (h : DiskAt w p b s z) (hC1 : Kd.C (Kd.int .u8) w A1 b1.length b1) (hn : b.length + b1.length ≤ z) :
    Calls Try.prog 12 #[.pointer (some ⟨p, 0, none⟩), .slice A1 b1.length c1] w fun e w' => e = .returned (.int .i64 0) ∧ DiskAt w' p (b ++ b1) s z ∧ w.grownBy w' (some p) := by
  have HD := Aside0.mk h
  obtain ⟨A, c', h⟩ := h
  have HK := Aside0.mk h
  have hf := h.fit
  have hz := h.most
  obtain ⟨A', hsl, hC', hA'⟩ := cut_hm h.C h.le b.length (Nat.le_refl _)
  have HSL := Aside0.mk hsl
  rw [List.take_length] at hC'
  have HA : Aside0 (AnyRow w A' b.length b) := ⟨Nat.le_refl _, hC', fun ad e => by
    obtain ⟨ad0, e0, e1⟩ := hA' ad e
    rw [e1]
    exact h.ty ad0 e0⟩
  have HC1 := Aside0.mk hC1
  have x0 := h.c0
  have f0 := blk_frozen h.blk 0
  clear h hC' hA' hC1
  have d1 : decide ((z : Int) - (b.length : Int) < (b1.length : Int)) = false := decide_eq_false (by omega)
  have hi : ∀ m, Below w.heap.size w (w.drewN m) := fun m => pw_below_drewN (Below.refl _ _) m
  go_enter Try.func12, Try.ntmps12
  go_wp2_with (go_at_call 15; (with_reducible refine (room_calls p b s z _ HD.out).mono ?_); rintro e w1 ⟨rfl, ⟨m1, rfl⟩⟩)
  generalize hW : World.drewN _ _ = W
  have HBW : Aside0 (Below w.heap.size w W) := by
    subst hW
    exact ⟨hi _⟩
  have x0 := cell_below0 x0 HBW.out
  have f0 : W.frozen? ⟨p, 0, none⟩ = false := blk_frozen (blk_below HK.out.blk HBW.out) 0
  clear hW hi
  have HBLK := Aside0.mk (blk_below HK.out.blk HBW.out)
  have HAW := Aside0.mk (HA.out.below HBW.out)
  have HCW := Aside0.mk (Kd.C_below HC1.out HBW.out)
  have HDW := Aside0.mk (HK.out.below HBW.out)
  clear hsl
  have hsl := HSL.out
  go_region_law (refine step_append_disk rfl (.tmp 29) (.tmp 30) rfl A' b (by simp [Act.eval, Act.put]) A1 b1 c1 (by simp [Act.eval, Act.put]) ?hA ?hB (by omega) ?_; (case hA => first | exact HAW.out | (refine HAW.out.below ?_; repeat (first | exact Below.refl _ _ | apply pw_below_drewN | apply below_drew1))); (case hB => first | exact HCW.out | (refine Kd.C_below HCW.out ?_; repeat (first | exact Below.refl _ _ | apply pw_below_drewN | apply below_drew1))); intro A2 c2 w2 hr2 hb2; have HB2 := Aside0.mk (below_then (show Below W.heap.size W _ by repeat (first | exact Below.refl _ _ | apply pw_below_drewN | apply below_drew1)) (Below.size (show Below W.heap.size W _ by repeat (first | exact Below.refl _ _ | apply pw_below_drewN | apply below_drew1))) hb2); clear hb2; have x2 := cell_below0 x0 HB2.out; have f2 := blk_frozen (blk_below HBLK.out HB2.out) 0)
  all_goals
    go_wp2
    go_ret
    have hgw : w.grownBy w2 (some p) := grown_of_below (below_then HBW.out HBW.out.size HB2.out) _
    have hlen : (b ++ b1).length = b.length + b1.length := by simp
    refine ⟨rfl, (HDW.out.below HB2.out).turn (grown_set _ _ _ _) ?_ hr2.out.1 hr2.out.2.1 hr2.out.2.2 (by omega) (by have := HDW.out.safe; omega), hgw.trans (grown_set _ _ _ _)⟩
    rw [hlen]
    exact setD (blk_below HBLK.out HB2.out) 0 _
end Go.Proofs.Ytpaphcoloogdlaa.Dk
