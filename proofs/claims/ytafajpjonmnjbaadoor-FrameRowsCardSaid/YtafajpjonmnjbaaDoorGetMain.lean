/- The payload that bytes begin with: the way that goes through, and the sum that is another one. -/
import Derived.Test.YtafajpjonmnjbaaDoorGet
namespace Go.Proofs.YtafajpjonmnjbaaDoor.Fr
open Go.RowKit Go.Proofs.YtafajpjonmnjbaaDoorW.PrintWords Go.Proofs.YtafajpjonmnjbaaDoorW.PrintLast Go.Proofs.YtafajpjonmnjbaaDoorW.PrintMore Go.Proofs.YtafajpjonmnjbaaDoor.Kit Go.Proofs.YtafajpjonmnjbaaDoor.PFrameGets
set_option linter.unusedVariables false
set_option linter.unusedSimpArgs false
set_option maxHeartbeats 4000000 in
set_option maxRecDepth 100000 in
theorem Get_main (A0 : Option Addr) (c0 : Nat) (l0 : List Int) (w : World) (hr0 : Kd.C (Kd.int .u8) w A0 l0.length l0) (h4 : 4 ≤ l0.length) (hy : Bytes l0) (m : Nat) (hn : Go.bits .or .i64 (l0.getD 0 0) (l0.getD 1 0 * 256) = (m : Int)) (h2 : l0.getD 2 0 = not8 (l0.getD 0 0)) (h3 : l0.getD 3 0 = not8 (l0.getD 1 0)) (hmay : 1 ≤ (m : Int) ∧ (m : Int) ≤ 4096) (hc0 : l0.length ≤ c0) (hs : m + 8 ≤ l0.length) (hT : Steps w) (hT4 : (l0.take (m + 8)).drop (4 + m) = sumBytes (crc (l0.take (4 + m))) 4) :
    Calls Tryd.prog 17 #[.slice A0 l0.length c0] w (GetPost ((l0.take (4 + m)).drop 4) (m + 8) 0 w) := by
  have hm := Kd.C_max hr0
  have HR0 := Aside0.mk hr0
  obtain ⟨ad, e, x0, x1, x2, x3⟩ := four_cells hr0 h4
  cases e
  have y0 := hy.getD 0
  have y1 := hy.getD 1
  generalize l0.getD 0 0 = b0 at *
  generalize l0.getD 1 0 = b1 at *
  generalize l0.getD 2 0 = b2 at *
  generalize l0.getD 3 0 = b3 at *
  obtain ⟨y00, y01⟩ := y0
  obtain ⟨y10, y11⟩ := y1
  have hsg : IntKind.u8.signed = false := rfl
  have d4 : decide ((l0.length : Int) < 4) = false := decide_eq_false (by omega)
  have i0 : (0 : Int) < (l0.length : Int) := by omega
  have i0n : 0 < l0.length := by omega
  have i0e : ¬ l0 = [] := fun h => by rw [h] at i0n; exact absurd i0n (by decide)
  have i1 : (1 : Int) < (l0.length : Int) := by omega
  have i2 : (2 : Int) < (l0.length : Int) := by omega
  have i3 : (3 : Int) < (l0.length : Int) := by omega
  have q2 : (b2 != Go.bits .xor .u8 IntKind.u8.max b0) = false := bne_eq_false_iff_eq.mpr h2
  have q3 : (b3 != Go.bits .xor .u8 IntKind.u8.max b1) = false := bne_eq_false_iff_eq.mpr h3
  have HM := Aside0.mk hmay
  have esz : sizeOfN (m : Int) = (m : Int) + 8 := if_pos hmay
  have m1 : 1 ≤ m := by omega
  have m2 : m ≤ 4096 := by omega
  have d8 : decide ((l0.length : Int) < (m : Int) + 8) = false := decide_eq_false (by omega)
  obtain ⟨A5, hs5, hC5⟩ := cut_h (P := Tryd.prog) Tryd.underlying22 elem22 sizeOf5 hr0 hc0 (4 + m) (4 + (m : Int)) (by omega) (by omega)
  obtain ⟨A6, hs6, hC6⟩ := cut_lh (P := Tryd.prog) Tryd.underlying22 elem22 sizeOf5 hr0 hc0 (4 + m) (m + 8) (4 + (m : Int)) ((m : Int) + 8) (by omega) (by omega) (by omega) (by omega)
  obtain ⟨A7, hs7, hC7⟩ := cut_lh (P := Tryd.prog) Tryd.underlying22 elem22 sizeOf5 hr0 hc0 4 (4 + m) 4 (4 + (m : Int)) (by omega) (by omega) (by omega) (by omega)
  obtain ⟨hd, hhd⟩ : ∃ hd, hd = l0.take (4 + m) := ⟨_, rfl⟩
  obtain ⟨tl, htl⟩ : ∃ tl, tl = (l0.take (m + 8)).drop (4 + m) := ⟨_, rfl⟩
  obtain ⟨pl, hpl⟩ : ∃ pl, pl = (l0.take (4 + m)).drop 4 := ⟨_, rfl⟩
  rw [← hhd] at hC5
  rw [← htl] at hC6
  rw [← hpl] at hC7
  rw [← hhd, ← htl] at hT4
  try rw [← hpl]
  have lhd : hd.length = 4 + m := by rw [hhd]; simp; omega
  have ltl : tl.length = 4 := by rw [htl]; simp; omega
  have lpl : pl.length = m := by rw [hpl]; simp; omega
  have e4 : m + 8 - (4 + m) = 4 := by omega
  have e5 : 4 + m - 4 = m := by omega
  rw [e4] at hs6 hC6
  rw [e5] at hs7 hC7
  rw [← lhd] at hC5
  have HC5 := Aside0.mk hC5
  have HC6 := Aside0.mk hC6
  have HC7 := Aside0.mk hC7
  have HLH := Aside0.mk lhd
  have HT := Aside0.mk hT
  have HT4 := Aside0.mk hT4
  have cc : hd.length ≤ c0 := by omega
  have HCC := Aside0.mk cc
  have hsum : ∀ u, Drawn0 w u → Calls Tryd.prog 11 #[.slice A5 (4 + m) c0] u fun e w' => e = .returned (.int .u32 (crc hd)) ∧ Drawn0 u w' := fun u hu => by
    obtain ⟨n, rfl⟩ := hu
    have := Sum_calls A5 c0 hd (w.drewN n) (Kd.C_drewN HC5.out n) HCC.out (HT.out.below (pw_below_drewN (Below.refl _ _) n))
    rw [HLH.out] at this
    exact this
  have HSUM := Aside0.mk hsum
  clear hC5 hC6 hC7 lhd hT hT4 cc hsum hhd htl hpl
  obtain ⟨S, hS⟩ : ∃ S, S = crc hd := ⟨_, rfl⟩
  have HS := Aside0.mk hS
  clear hS
  clear h2 h3 hr0 hy hmay
  go_enter Tryd.func17, Tryd.ntmps17
  go_wp2
  go_quiet (fail)
  go_wp2
  go_region_held3 (fun w' => w'.cell? ad = some (.int .u8 b0) ∧ w'.cell? ⟨ad.block, ad.off + 1, none⟩ = some (.int .u8 b1) ∧ w'.cell? ⟨ad.block, ad.off + 2, none⟩ = some (.int .u8 b2) ∧ w'.cell? ⟨ad.block, ad.off + 3, none⟩ = some (.int .u8 b3)) (go_keep) (first | (go_at_call 22; (with_reducible refine (may_yes _ _ HM.out).mono ?_); rintro e w' ⟨rfl, rfl⟩))
  go_wp2_with (first | (go_at_call 15; (with_reducible refine (size_calls _ _).mono ?_); rintro e w4 ⟨rfl, ⟨m4, rfl⟩⟩; rw [esz]) | (go_at_call 11; (with_reducible refine (HSUM.out _ ?hD).mono ?_); (case hD => repeat (first | exact Drawn0.refl _ | exact ⟨1, rfl⟩ | apply Drawn0.step)); rintro e w5 ⟨rfl, ⟨m5, rfl⟩⟩; rw [← HS.out]))
  generalize hW : World.drewN _ _ = W
  have HW : Aside0 (Below w.heap.size w W) := by
    subst hW
    refine ⟨?_⟩
    repeat (first | exact Below.refl _ _ | apply pw_below_drewN | apply below_drew1)
  clear hW
  go_loop [6, 8, 64] (fun s _ i => ∃ k : Nat, k ≤ 4 ∧ i = .int .i64 k ∧ s = .int .u32 (S / 256 ^ k)) (fun _ _ i => 4 - (intOf i).toNat)
  case atStart => exact ⟨0, by omega, rfl, by simp⟩
  case round =>
    obtain ⟨k, hk, rfl, rfl⟩ := hrel
    generalize hz : S / 256 ^ k = z
    have HZ := Aside0.mk hz
    clear hz
    by_cases hlt : k < 4
    · obtain ⟨ad6, e6, x6⟩ := at_nat (Kd.C_below HC6.out HW.out) k hlt
      cases e6
      have ek : tl.getD k 0 = z % 256 := by
        rw [HT4.out, ← HZ.out, ← HS.out]
        simp [sumBytes, hlt]
      rw [ek] at x6
      have qk : (z % 256 != z % 256) = false := bne_eq_false_iff_eq.mpr rfl
      go_wp2
      go_round
      case rel => exact ⟨k + 1, by omega, by go_num, by rw [← HZ.out]; exact ret_u32 (div_pow256 _ _)⟩
      case measure => simp [intOf]; omega
    · go_wp2_with (first | ((with_reducible refine gate_dst (N := 75) rfl ?_); refine lit_event (w0 := W) W.heap.size rfl (N := 75) rfl .u8 5 [] ?hr (Below.refl _ _) (Nat.le_refl _) (by simp) ?_; (case hr => first | (go_simp; done) | (go_simp; rfl) | (go_simp; exact ⟨rfl, rfl⟩)); intro v7 w7 ho7 hb7 _; have HO7 := Aside0.mk ho7; have HB7 := Aside0.mk hb7; clear ho7 hb7) | ((with_reducible refine gate_dst (N := 80) rfl ?_); refine appN_event (w0 := W) W.heap.size rfl (N := 80) rfl .u8 _ _ 22 5 (.int .u8 0) 1 rfl Tryd.underlying22 info5 rfl (by omega) v7 [] pl A7 m (c0 - 4) rfl rfl HO7.out (Kd.C_below (Kd.C_below HC7.out HW.out) HB7.out) HB7.out HB7.out.size (by simp; omega) ?_; intro v8 w8 ho8 hb8 hg8; rw [List.nil_append] at ho8; have HO8 := Aside0.mk ho8; have HB8 := Aside0.mk hb8; clear ho8 hb8 hg8) | (go_at_call 15; (with_reducible refine (size_calls _ _).mono ?_); rintro e w4 ⟨rfl, ⟨m4, rfl⟩⟩; rw [esz]))
      go_ret3
      exact ⟨v8, by simp, (HO8.out.below (pw_below_drewN (Below.refl _ _) _)).lower HW.out.size, below_then HW.out HW.out.size (pw_below_drewN HB8.out _)⟩
set_option maxHeartbeats 4000000 in
set_option maxRecDepth 100000 in
theorem Get_sum (A0 : Option Addr) (c0 : Nat) (l0 : List Int) (w : World) (hr0 : Kd.C (Kd.int .u8) w A0 l0.length l0) (h4 : 4 ≤ l0.length) (hy : Bytes l0) (m : Nat) (hn : Go.bits .or .i64 (l0.getD 0 0) (l0.getD 1 0 * 256) = (m : Int)) (h2 : l0.getD 2 0 = not8 (l0.getD 0 0)) (h3 : l0.getD 3 0 = not8 (l0.getD 1 0)) (hmay : 1 ≤ (m : Int) ∧ (m : Int) ≤ 4096) (hc0 : l0.length ≤ c0) (hs : m + 8 ≤ l0.length) (hT : Steps w) (hT4 : (l0.take (m + 8)).drop (4 + m) ≠ sumBytes (crc (l0.take (4 + m))) 4) :
    Calls Tryd.prog 17 #[.slice A0 l0.length c0] w (GetPost [] 0 6 w) := by
  have hm := Kd.C_max hr0
  have HR0 := Aside0.mk hr0
  obtain ⟨ad, e, x0, x1, x2, x3⟩ := four_cells hr0 h4
  cases e
  have y0 := hy.getD 0
  have y1 := hy.getD 1
  generalize l0.getD 0 0 = b0 at *
  generalize l0.getD 1 0 = b1 at *
  generalize l0.getD 2 0 = b2 at *
  generalize l0.getD 3 0 = b3 at *
  obtain ⟨y00, y01⟩ := y0
  obtain ⟨y10, y11⟩ := y1
  have hsg : IntKind.u8.signed = false := rfl
  have d4 : decide ((l0.length : Int) < 4) = false := decide_eq_false (by omega)
  have i0 : (0 : Int) < (l0.length : Int) := by omega
  have i0n : 0 < l0.length := by omega
  have i0e : ¬ l0 = [] := fun h => by rw [h] at i0n; exact absurd i0n (by decide)
  have i1 : (1 : Int) < (l0.length : Int) := by omega
  have i2 : (2 : Int) < (l0.length : Int) := by omega
  have i3 : (3 : Int) < (l0.length : Int) := by omega
  have q2 : (b2 != Go.bits .xor .u8 IntKind.u8.max b0) = false := bne_eq_false_iff_eq.mpr h2
  have q3 : (b3 != Go.bits .xor .u8 IntKind.u8.max b1) = false := bne_eq_false_iff_eq.mpr h3
  have HM := Aside0.mk hmay
  have esz : sizeOfN (m : Int) = (m : Int) + 8 := if_pos hmay
  have m1 : 1 ≤ m := by omega
  have m2 : m ≤ 4096 := by omega
  have d8 : decide ((l0.length : Int) < (m : Int) + 8) = false := decide_eq_false (by omega)
  obtain ⟨A5, hs5, hC5⟩ := cut_h (P := Tryd.prog) Tryd.underlying22 elem22 sizeOf5 hr0 hc0 (4 + m) (4 + (m : Int)) (by omega) (by omega)
  obtain ⟨A6, hs6, hC6⟩ := cut_lh (P := Tryd.prog) Tryd.underlying22 elem22 sizeOf5 hr0 hc0 (4 + m) (m + 8) (4 + (m : Int)) ((m : Int) + 8) (by omega) (by omega) (by omega) (by omega)
  obtain ⟨A7, hs7, hC7⟩ := cut_lh (P := Tryd.prog) Tryd.underlying22 elem22 sizeOf5 hr0 hc0 4 (4 + m) 4 (4 + (m : Int)) (by omega) (by omega) (by omega) (by omega)
  obtain ⟨hd, hhd⟩ : ∃ hd, hd = l0.take (4 + m) := ⟨_, rfl⟩
  obtain ⟨tl, htl⟩ : ∃ tl, tl = (l0.take (m + 8)).drop (4 + m) := ⟨_, rfl⟩
  obtain ⟨pl, hpl⟩ : ∃ pl, pl = (l0.take (4 + m)).drop 4 := ⟨_, rfl⟩
  rw [← hhd] at hC5
  rw [← htl] at hC6
  rw [← hpl] at hC7
  rw [← hhd, ← htl] at hT4
  try rw [← hpl]
  have lhd : hd.length = 4 + m := by rw [hhd]; simp; omega
  have ltl : tl.length = 4 := by rw [htl]; simp; omega
  have lpl : pl.length = m := by rw [hpl]; simp; omega
  have e4 : m + 8 - (4 + m) = 4 := by omega
  have e5 : 4 + m - 4 = m := by omega
  rw [e4] at hs6 hC6
  rw [e5] at hs7 hC7
  rw [← lhd] at hC5
  have HC5 := Aside0.mk hC5
  have HC6 := Aside0.mk hC6
  have HC7 := Aside0.mk hC7
  have HLH := Aside0.mk lhd
  have HT := Aside0.mk hT
  have HT4 := Aside0.mk hT4
  have cc : hd.length ≤ c0 := by omega
  have HCC := Aside0.mk cc
  have hsum : ∀ u, Drawn0 w u → Calls Tryd.prog 11 #[.slice A5 (4 + m) c0] u fun e w' => e = .returned (.int .u32 (crc hd)) ∧ Drawn0 u w' := fun u hu => by
    obtain ⟨n, rfl⟩ := hu
    have := Sum_calls A5 c0 hd (w.drewN n) (Kd.C_drewN HC5.out n) HCC.out (HT.out.below (pw_below_drewN (Below.refl _ _) n))
    rw [HLH.out] at this
    exact this
  have HSUM := Aside0.mk hsum
  clear hC5 hC6 hC7 lhd hT hT4 cc hsum hhd htl hpl
  obtain ⟨S, hS⟩ : ∃ S, S = crc hd := ⟨_, rfl⟩
  have HS := Aside0.mk hS
  clear hS
  clear h2 h3 hr0 hy hmay
  go_enter Tryd.func17, Tryd.ntmps17
  go_wp2
  go_quiet (fail)
  go_wp2
  go_region_held3 (fun w' => w'.cell? ad = some (.int .u8 b0) ∧ w'.cell? ⟨ad.block, ad.off + 1, none⟩ = some (.int .u8 b1) ∧ w'.cell? ⟨ad.block, ad.off + 2, none⟩ = some (.int .u8 b2) ∧ w'.cell? ⟨ad.block, ad.off + 3, none⟩ = some (.int .u8 b3)) (go_keep) (first | (go_at_call 22; (with_reducible refine (may_yes _ _ HM.out).mono ?_); rintro e w' ⟨rfl, rfl⟩))
  go_wp2_with (first | (go_at_call 15; (with_reducible refine (size_calls _ _).mono ?_); rintro e w4 ⟨rfl, ⟨m4, rfl⟩⟩; rw [esz]) | (go_at_call 11; (with_reducible refine (HSUM.out _ ?hD).mono ?_); (case hD => repeat (first | exact Drawn0.refl _ | exact ⟨1, rfl⟩ | apply Drawn0.step)); rintro e w5 ⟨rfl, ⟨m5, rfl⟩⟩; rw [← HS.out]))
  generalize hW : World.drewN _ _ = W
  have HW : Aside0 (Below w.heap.size w W) := by
    subst hW
    refine ⟨?_⟩
    repeat (first | exact Below.refl _ _ | apply pw_below_drewN | apply below_drew1)
  clear hW
  have HTL := Aside0.mk ltl
  go_loop [6, 8, 64] (fun s _ i => ∃ k : Nat, k ≤ 4 ∧ i = .int .i64 k ∧ s = .int .u32 (S / 256 ^ k) ∧ Aside0 (∀ j, j < k → tl.getD j 0 = S / 256 ^ j % 256)) (fun _ _ i => 4 - (intOf i).toNat)
  case atStart => exact ⟨0, by omega, rfl, by simp, ⟨fun j h => absurd h (Nat.not_lt_zero j)⟩⟩
  case round =>
    obtain ⟨k, hk, rfl, rfl, HP⟩ := hrel
    generalize hz : S / 256 ^ k = z
    have HZ := Aside0.mk hz
    clear hz
    by_cases hlt : k < 4
    · obtain ⟨ad6, e6, x6⟩ := at_nat (Kd.C_below HC6.out HW.out) k hlt
      cases e6
      by_cases ek : tl.getD k 0 = z % 256
      · rw [ek] at x6
        have HEK := Aside0.mk ek
        clear ek
        have qk : (z % 256 != z % 256) = false := bne_eq_false_iff_eq.mpr rfl
        go_wp2
        go_round
        case rel => exact ⟨k + 1, by omega, by go_num, by rw [← HZ.out]; exact ret_u32 (div_pow256 _ _), ⟨fun j hj => by
          rcases Nat.lt_succ_iff_lt_or_eq.1 hj with h | h
          · exact HP.out j h
          · rw [h, HZ.out]; exact HEK.out⟩⟩
        case measure => simp [intOf]; omega
      · generalize tl.getD k 0 = tk at ek x6
        have qk : (tk != z % 256) = true := bne_iff_ne.mpr ek
        clear ek
        go_wp2
        go_ret3
        exact getPost_nil 0 6 HW.out
    · exfalso
      apply HT4.out
      rw [← HS.out]
      have hk4 : k = 4 := by omega
      subst hk4
      apply List.ext_getElem
      · rw [HTL.out]; rfl
      · intro j h1 h2
        have hj : j < 4 := by rw [HTL.out] at h1; exact h1
        have := HP.out j hj
        simpa [sumBytes, hj, h1] using this
end Go.Proofs.YtafajpjonmnjbaaDoor.Fr
