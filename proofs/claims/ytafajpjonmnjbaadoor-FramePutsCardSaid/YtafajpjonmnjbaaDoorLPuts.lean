import Derived.Test.YtafajpjonmnjbaaDoorLPutsOk
import Derived.Test.YtafajpjonmnjbaaDoorLPutsBad1
import Derived.Test.YtafajpjonmnjbaaDoorLPutsBad2
namespace Go.Proofs.YtafajpjonmnjbaaDoor.Fr
open Go.RowKit Go.Proofs.YtafajpjonmnjbaaDoorW.PrintWords Go.Proofs.YtafajpjonmnjbaaDoorW.PrintLast Go.Proofs.YtafajpjonmnjbaaDoorW.PrintMore Go.Proofs.YtafajpjonmnjbaaDoor.Kit Go.Proofs.YtafajpjonmnjbaaDoor.PFrameGets
set_option linter.unusedVariables false
theorem law_puts (A0 A1 : Option Addr) (c0 c1 : Nat) (l0 l1 : List Int) (n : Int) (w : World) (hr0 : Kd.C (Kd.int .u8) w A0 l0.length l0) (hr1 : Kd.C (Kd.int .u8) w A1 l1.length l1) (hc0 : l0.length ≤ c0) (hc1 : l1.length ≤ c1) (hT : Steps w) (hb0 : Bytes l0) (hb1 : Bytes l1) :
    Calls Tryd.prog 4 #[.slice A0 l0.length c0, .slice A1 l1.length c1, .int .i64 n] w (TruePost w) := by
  have m0 := Kd.C_max hr0
  have m1 := Kd.C_max hr1
  by_cases h0 : 4500 < l0.length
  · have HT := Aside0.mk hT
    clear hr0 hr1 hT hb0 hb1
    have d0 : decide (4500 < (l0.length : Int)) = true := decide_eq_true (by omega)
    go_enter Tryd.func4, Tryd.ntmps4
    go_wp2_with (go_at_call 9; (with_reducible refine (awake_calls _ HT.out).mono ?_); rintro e w1 ⟨rfl, hb1⟩; have HB1 := Aside0.mk hb1; clear hb1)
    go_ret
    exact ⟨rfl, HB1.out⟩
  · by_cases h1 : 4500 < l1.length
    · have HT := Aside0.mk hT
      clear hr0 hr1 hT hb0 hb1
      have d0 : decide (4500 < (l0.length : Int)) = false := decide_eq_false (by omega)
      have d1 : decide (4500 < (l1.length : Int)) = true := decide_eq_true (by omega)
      go_enter Tryd.func4, Tryd.ntmps4
      go_wp2_with (go_at_call 9; (with_reducible refine (awake_calls _ HT.out).mono ?_); rintro e w1 ⟨rfl, hb1⟩; have HB1 := Aside0.mk hb1; clear hb1)
      go_ret
      exact ⟨rfl, HB1.out⟩
    · by_cases hn1 : 1 ≤ n
      · by_cases hn2 : n ≤ 4096
        · by_cases q1 : l1.length < 1
          · exact puts_bad1_in A0 A1 c0 c1 l0 l1 n w hr0 hr1 hc0 hc1 hT hb0 hb1 (by omega) (by omega) q1 (decide_eq_true hn1) (decide_eq_true hn2)
          · by_cases q2 : 4096 < l1.length
            · exact puts_bad2_in A0 A1 c0 c1 l0 l1 n w hr0 hr1 hc0 hc1 hT hb0 hb1 (by omega) (by omega) q2 (decide_eq_true hn1) (decide_eq_true hn2)
            · exact puts_ok_in A0 A1 c0 c1 l0 l1 n w hr0 hr1 hc0 hc1 hT hb0 hb1 (by omega) (by omega) (by omega) (decide_eq_true hn1) (decide_eq_true hn2)
        · by_cases q1 : l1.length < 1
          · exact puts_bad1_hi A0 A1 c0 c1 l0 l1 n w hr0 hr1 hc0 hc1 hT hb0 hb1 (by omega) (by omega) q1 (decide_eq_true hn1) (decide_eq_false hn2)
          · by_cases q2 : 4096 < l1.length
            · exact puts_bad2_hi A0 A1 c0 c1 l0 l1 n w hr0 hr1 hc0 hc1 hT hb0 hb1 (by omega) (by omega) q2 (decide_eq_true hn1) (decide_eq_false hn2)
            · exact puts_ok_hi A0 A1 c0 c1 l0 l1 n w hr0 hr1 hc0 hc1 hT hb0 hb1 (by omega) (by omega) (by omega) (decide_eq_true hn1) (decide_eq_false hn2)
      · by_cases q1 : l1.length < 1
        · exact puts_bad1_lo A0 A1 c0 c1 l0 l1 n w hr0 hr1 hc0 hc1 hT hb0 hb1 (by omega) (by omega) q1 (decide_eq_false hn1)
        · by_cases q2 : 4096 < l1.length
          · exact puts_bad2_lo A0 A1 c0 c1 l0 l1 n w hr0 hr1 hc0 hc1 hT hb0 hb1 (by omega) (by omega) q2 (decide_eq_false hn1)
          · exact puts_ok_lo A0 A1 c0 c1 l0 l1 n w hr0 hr1 hc0 hc1 hT hb0 hb1 (by omega) (by omega) (by omega) (decide_eq_false hn1)
end Go.Proofs.YtafajpjonmnjbaaDoor.Fr
