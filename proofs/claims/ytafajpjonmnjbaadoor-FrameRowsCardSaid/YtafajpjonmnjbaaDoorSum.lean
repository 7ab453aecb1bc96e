import Derived.Test.YtafajpjonmnjbaaDoorPFrameGetsx1
import Derived.LoopN
import Derived.Test.YtafajpjonmnjbaaDoorKit
namespace Go.Proofs.YtafajpjonmnjbaaDoor.Fr
open Go.RowKit Go.Proofs.YtafajpjonmnjbaaDoorW.PrintWords Go.Proofs.YtafajpjonmnjbaaDoorW.PrintLast Go.Proofs.YtafajpjonmnjbaaDoorW.PrintMore Go.Proofs.YtafajpjonmnjbaaDoor.Kit
set_option linter.unusedVariables false
set_option linter.unusedSimpArgs false

def tbl : List Int := [0, 498536548, 997073096, 651767980, 1994146192, 1802195444, 1303535960, 1342533948, 3988292384, 4027552580, 3604390888, 3412177804, 2607071920, 2262029012, 2685067896, 3183342108]
def tb (x : Int) : Int := tbl.getD x.toNat 0
def Steps (w : World) : Prop := ∀ x : Int, 0 ≤ x → x < 16 → w.cell? ⟨0, x.toNat, none⟩ = some (.int .u32 (tb x))
/-- one step over four bits -/
def ix (n h : Int) : Int := Go.bits .and .u32 (Go.bits .xor .u32 n (h % 4294967296)) 15
def half (n h : Int) : Int := Go.bits .xor .u32 (n / 16) (tb (ix n h))
def byteStep (n c : Int) : Int := half (half n (Go.bits .and .u8 c 15)) (c / 16)
def crc (l : List Int) : Int := Go.bits .xor .u32 IntKind.u32.max (l.foldl byteStep 4294967295)
theorem and15 (x : Int) : 0 ≤ Go.bits .and .u32 x 15 ∧ Go.bits .and .u32 x 15 < 16 := by
  have h : (BitVec.ofInt 32 x &&& BitVec.ofInt 32 15).toNat < 16 := by
    rw [BitVec.toNat_and]
    exact Nat.lt_of_le_of_lt Nat.and_le_right (by decide)
  have e : Go.bits .and .u32 x 15 = IntKind.u32.wrap ((BitVec.ofInt 32 x &&& BitVec.ofInt 32 15).toNat : Int) := rfl
  rw [e, IntKind.wrap_u32]
  omega
set_option maxHeartbeats 400000 in
theorem Sum_calls (A0 : Option Addr) (c0 : Nat) (l0 : List Int) (w : World) (hr0 : Kd.C (Kd.int .u8) w A0 l0.length l0) (hc0 : l0.length ≤ c0) (hT : Steps w) :
    Calls Tryd.prog 11 #[.slice A0 l0.length c0] w fun e w' => e = .returned (.int .u32 (crc l0)) ∧ Drawn0 w w' := by
  have HR0 := Aside0.mk hr0
  have HT := Aside0.mk hT
  have hmax := Kd.C_max hr0
  clear hr0 hT
  have i0 : ∀ (x y : Int) (w : World), (Instr.index 46 (.agg #[.int .u8 x, .int .u8 y]) (.int .i64 0)).run Tryd.prog w = .ok (.int .u8 x) w := fun _ _ _ => by kernel_rfl
  have i1 : ∀ (x y : Int) (w : World), (Instr.index 46 (.agg #[.int .u8 x, .int .u8 y]) (.int .i64 1)).run Tryd.prog w = .ok (.int .u8 y) w := fun _ _ _ => by kernel_rfl
  have hu47 := Tryd.underlying47
  go_enter Tryd.func11, Tryd.ntmps11
  go_wp2
  go_loop [3, 10] (fun n i => ∃ k : Nat, k ≤ l0.length ∧ i = .int .i64 k ∧ n = .int .u32 ((l0.take k).foldl byteStep 4294967295)) (fun _ i => l0.length - (intOf i).toNat)
  case atStart => exact ⟨0, Nat.zero_le _, rfl, rfl⟩
  case round =>
    obtain ⟨k, hk, rfl, rfl⟩ := hrel
    by_cases hlt : k < l0.length
    · obtain ⟨ad, e, hx⟩ := at_nat HR0.out k hlt
      cases e
      generalize hn : (l0.take k).foldl byteStep 4294967295 = n
      have HN := Aside0.mk hn
      clear hn
      generalize hc : l0.getD k 0 = c at hx
      have HC := Aside0.mk hc
      clear hc
      have b0 := and15 (Go.bits .xor .u32 n (Go.bits .and .u8 c 15 % 4294967296))
      have hx0 := HT.out _ b0.1 b0.2
      go_wp2
      refine wp_loop_rounds 3 ?_
      rw [rounds_succ]; go_wp2
      clear b0 hx0
      rw [show Go.bits .xor .u32 (n / 16) (tb (Go.bits .and .u32 (Go.bits .xor .u32 n (Go.bits .and .u8 c 15 % 4294967296)) 15)) = half n (Go.bits .and .u8 c 15) from rfl]
      generalize hm : half n (Go.bits .and .u8 c 15) = m
      have HM := Aside0.mk hm
      clear hm
      have b1 := and15 (Go.bits .xor .u32 m (c / 16 % 4294967296))
      have hx1 := HT.out _ b1.1 b1.2
      rw [rounds_succ]; go_wp2
      rw [rounds_succ]; go_wp2
      go_round
      case rel => exact ⟨k + 1, by omega, by go_num, by
        rw [List.take_succ_eq_append_getElem hlt, List.foldl_append, HN.out]
        have e : l0[k] = c := by rw [← HC.out]; simp [hlt]
        rw [e]
        show _ = Value.int .u32 (half (half n (Go.bits .and .u8 c 15)) (c / 16))
        rw [HM.out]
        rfl⟩
      case measure => simp [intOf]; omega
    · go_wp2
      go_ret
      have e : k = l0.length := by omega
      subst e
      exact ⟨by show Ending.returned (.int .u32 (crc (l0.take l0.length))) = _; rw [List.take_length], Drawn0.refl _⟩
end Go.Proofs.YtafajpjonmnjbaaDoor.Fr
