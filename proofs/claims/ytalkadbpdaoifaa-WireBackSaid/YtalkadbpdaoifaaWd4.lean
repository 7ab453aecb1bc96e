/- The document's reading: one byte, a number, few, a text, a tag. -/
import Derived.Test.YtalkadbpdaoifaaWd3
namespace Go.Proofs.Ytalkadbpdaoifaa.AX
open Go Go.RowKit
set_option linter.unusedSimpArgs false
set_option linter.unusedVariables false
set_option maxRecDepth 100000
set_option maxHeartbeats 4000000
def Rst.numR (s : Rst) : Int := if s.num.e = 0 then s.numV else 0
theorem c_pfail (b : List UInt8) (e k : Int) : Pure Try.prog 64 [.agg [.sl (encB b), i64 e], i64 k] (.agg [.sl (encB (Rst.fail ⟨b, e⟩ k).b), i64 (Rst.fail ⟨b, e⟩ k).e]) := by
  by_cases he : e = 0
  · refine pureQ_of_aw dOk Try.func64 rfl rfl rfl rfl rfl ?_
    simp [Try.f64, he, -encB]
    repeat' (first | intro _ | with_reducible refine And.intro ?_ ?_ | exact chkI (by kernel_rfl) | exact backI (by kernel_rfl) | fail)
    all_goals (simp [Rst.fail, he, -encB])
  · refine pureQ_of_aw dOk Try.func64 rfl rfl rfl rfl rfl ?_
    simp [Try.f64, he, -encB]
    repeat' (first | intro _ | with_reducible refine And.intro ?_ ?_ | exact chkI (by kernel_rfl) | exact backI (by kernel_rfl) | fail)
    all_goals (simp [Rst.fail, he, -encB])
theorem c_pone (b : List UInt8) (e : Int) : Pure Try.prog 59 [.agg [.sl (encB b), i64 e]] (.tup [.agg [.sl (encB (Rst.one ⟨b, e⟩).b), i64 (Rst.one ⟨b, e⟩).e], i64 ((Rst.oneV ⟨b, e⟩).toNat : Int)]) := by
  by_cases he : e = 0
  · rcases b with _ | ⟨c, r⟩
    · refine pureQ_of_aw dOk Try.func59 rfl rfl rfl rfl rfl ?_
      simp [Try.f59, he, -encB]
      repeat' (first | intro _ | with_reducible refine And.intro ?_ ?_ | exact chkI (by kernel_rfl) | exact backI (by kernel_rfl) | (refine callA (by first | rfl | (simp; done) | (simp; rfl)) (c_pfail ..) ?_ <;> try simp [he, -encB]) | (refine callB (by first | rfl | (simp; done) | (simp; rfl)) (c_pfail ..) ?_ <;> try simp [he, -encB]) | fail)
      all_goals (simp [Rst.one, Rst.oneV, Rst.fail, he, -encB])
    · have hc : IntKind.i64.wrap (c.toNat : Int) = c.toNat := wr64 (by omega) (by have := c.toNat_lt; omega)
      have hn := eq_false (show ¬ ((r.length : Int) + 1 = 0) by omega)
      refine pureQ_of_aw dOk Try.func59 rfl rfl rfl rfl rfl ?_
      simp [Try.f59, he, hn, encB_cons, -encB]
      repeat' (first | intro _ | with_reducible refine And.intro ?_ ?_ | exact chkI (by kernel_rfl) | exact backI (by kernel_rfl) | (refine callA (by first | rfl | (simp; done) | (simp; rfl)) (c_pfail ..) ?_ <;> try simp [he, hn, hc, encB_cons, -encB]) | (refine callB (by first | rfl | (simp; done) | (simp; rfl)) (c_pfail ..) ?_ <;> try simp [he, hn, hc, encB_cons, -encB]) | fail)
      all_goals first | omega | exact encB_one (by assumption) | (simp [Rst.one, Rst.oneV, he, hc, encB_cons, -encB]; done)
  · refine pureQ_of_aw dOk Try.func59 rfl rfl rfl rfl rfl ?_
    simp [Try.f59, he, -encB]
    repeat' (first | intro _ | with_reducible refine And.intro ?_ ?_ | exact chkI (by kernel_rfl) | exact backI (by kernel_rfl) | (refine callA (by first | rfl | (simp; done) | (simp; rfl)) (c_pfail ..) ?_ <;> try simp [he, -encB]) | (refine callB (by first | rfl | (simp; done) | (simp; rfl)) (c_pfail ..) ?_ <;> try simp [he, -encB]) | fail)
    all_goals (simp [Rst.one, Rst.oneV, he, -encB])
theorem c_pnum (b : List UInt8) (e : Int) : Pure Try.prog 62 [.agg [.sl (encB b), i64 e]] (.tup [.agg [.sl (encB (Rst.num ⟨b, e⟩).b), i64 (Rst.num ⟨b, e⟩).e], i64 (Rst.numR ⟨b, e⟩)]) := by
  unfold Rst.numR Rst.num Rst.numV
  generalize hX : numGo 6 0 0 ⟨b, e⟩ = X
  refine pureQ_of_aw dOk Try.func62 rfl rfl rfl rfl rfl ?_
  simp [Try.f62, -encB]
  refine aw_loopKM (α := {x : Nat × Nat × Rst // NumI X x}) [1, 2, 50, 51] (fun x => [(6, i64 x.1.1), (4, i64 x.1.2.1), (5, i64 ((128 ^ x.1.1 : Nat) : Int))]) (fun x => [(0, .box false 105 [.sl (encB x.1.2.2.b), i64 x.1.2.2.e]), (1, .box false 105 [.nl, i64 0])]) 2 (fun x => 6 - x.1.1) ⟨(0, 0, ⟨b, e⟩), by simp [NumI, hX]⟩ (St.to_chk [] (by simp [-encB])) ?_
  rintro ⟨⟨k, n, s⟩, j1, j2, j3⟩
  dsimp only at j1 j2 j3 ⊢
  by_cases hk : k < 6
  · obtain ⟨f, hf⟩ : ∃ f, 6 - k = f + 1 := ⟨5 - k, by omega⟩
    have hf2 : 6 - (k + 1) = f := by omega
    rw [hf, numGo] at j3
    have hw := wrI (i := k) (n := 6) hk (by omega)
    have hc := oneV_lt s
    have hk6 := eq_true (show (k : Int) < 6 by omega)
    have q1 : (128 : Nat) ^ k ≤ 128 ^ 5 := Nat.pow_le_pow_right (by decide) (by omega)
    have q2 : (128 : Nat) ^ 5 = 34359738368 := by decide
    have q3 : ((128 : Int) ^ k) = ((128 ^ k : Nat) : Int) := by push_cast; rfl
    have q4 : (128 : Nat) ^ (k + 1) = 128 * 128 ^ k := by rw [Nat.pow_succ, Nat.mul_comm]
    have q5 : s.oneV.toNat * 128 ^ k ≤ 255 * 128 ^ k := Nat.mul_le_mul_right _ (by omega)
    have q6 : (s.oneV.toNat - 128) * 128 ^ k ≤ 127 * 128 ^ k := Nat.mul_le_mul_right _ (by omega)
    have w1 : IntKind.i64.wrap ((s.oneV.toNat : Int) * 128 ^ k) = ((s.oneV.toNat * 128 ^ k : Nat) : Int) := by rw [q3, ← Int.natCast_mul]; exact wr64 (by omega) (by omega)
    have w2 : IntKind.i64.wrap ((n : Int) + ((s.oneV.toNat * 128 ^ k : Nat) : Int)) = ((n + s.oneV.toNat * 128 ^ k : Nat) : Int) := by rw [← Int.natCast_add]; exact wr64 (by omega) (by omega)
    have w3 : IntKind.i64.wrap ((128 : Int) ^ k * 128) = ((128 ^ (k + 1) : Nat) : Int) := by rw [q3, q4, show ((128 ^ k : Nat) : Int) * 128 = ((128 * 128 ^ k : Nat) : Int) by omega]; exact wr64 (by omega) (by omega)
    by_cases h1 : s.one.e = 0
    · rw [if_neg (by simp [h1])] at j3
      by_cases h2 : 128 ≤ s.oneV.toNat
      · rw [if_pos h2] at j3
        have v2 := eq_false (show ¬ (s.oneV.toNat : Int) < 128 by omega)
        have w4 : IntKind.i64.wrap ((s.oneV.toNat : Int) - 128) = ((s.oneV.toNat - 128 : Nat) : Int) := by rw [show (s.oneV.toNat : Int) - 128 = ((s.oneV.toNat - 128 : Nat) : Int) by omega]; exact wr64 (by omega) (by omega)
        have w5 : IntKind.i64.wrap (((s.oneV.toNat - 128 : Nat) : Int) * 128 ^ k) = (((s.oneV.toNat - 128) * 128 ^ k : Nat) : Int) := by rw [q3, ← Int.natCast_mul]; exact wr64 (by omega) (by omega)
        have w6 : IntKind.i64.wrap ((n : Int) + (((s.oneV.toNat - 128) * 128 ^ k : Nat) : Int)) = ((n + (s.oneV.toNat - 128) * 128 ^ k : Nat) : Int) := by rw [← Int.natCast_add]; exact wr64 (by omega) (by omega)
        simp [hk6, -encB, -Int.natCast_mul, -Int.natCast_add, -Int.natCast_pow]
        repeat' (first | intro _ | with_reducible refine And.intro ?_ ?_ | exact chkI (by kernel_rfl) | exact backI (by kernel_rfl) | (refine callA (by first | rfl | (simp; done) | (simp; rfl)) (c_pfail ..) ?_ <;> try simp [hk6, h1, v2, w4, w5, w6, -encB, -Int.natCast_mul, -Int.natCast_add]) | (refine callB (by first | rfl | (simp; done) | (simp; rfl)) (c_pfail ..) ?_ <;> try simp [hk6, h1, v2, w4, w5, w6, -encB, -Int.natCast_mul, -Int.natCast_add]) | (refine callA (by first | rfl | (simp; done) | (simp; rfl)) (c_pone ..) ?_ <;> try simp [hk6, h1, v2, w4, w5, w6, -encB, -Int.natCast_mul, -Int.natCast_add]) | (refine callB (by first | rfl | (simp; done) | (simp; rfl)) (c_pone ..) ?_ <;> try simp [hk6, h1, v2, w4, w5, w6, -encB, -Int.natCast_mul, -Int.natCast_add]) | fail)
        refine Exists.intro (k + 1) (And.intro (by omega) (Exists.intro (n + (s.oneV.toNat - 128) * 128 ^ k) (Exists.intro s.one (And.intro ⟨by omega, ?_, by rw [hf2]; exact j3⟩ (St.to_chk [] ?_)))))
        · show n + (s.oneV.toNat - 128) * 128 ^ k < 128 ^ (k + 1)
          omega
        · simp [hw, w3, h1, -encB]
      · rw [if_neg h2] at j3
        have hs1 : (⟨s.one.b, 0⟩ : Rst) = s.one := by rw [← h1]
        have v2 := eq_true (show (s.oneV.toNat : Int) < 128 by omega)
        by_cases h3 : s.oneV.toNat = 0 ∧ 0 < k
        · rw [if_pos h3] at j3
          obtain ⟨h30, h31⟩ := h3
          have he := fail_e s.one (k := 4) (by decide)
          simp only [h30, Nat.zero_mul, Nat.add_zero] at w1 w2
          simp [hk6, -encB, -Int.natCast_mul, -Int.natCast_add, -Int.natCast_pow]
          repeat' (first | intro _ | with_reducible refine And.intro ?_ ?_ | exact chkI (by kernel_rfl) | exact backI (by kernel_rfl) | (refine callA (by first | rfl | (simp; done) | (simp; rfl)) (c_pfail ..) ?_ <;> try simp [hk6, h1, h30, h31, v2, w1, w2, -encB, -Int.natCast_mul, -Int.natCast_add]) | (refine callB (by first | rfl | (simp; done) | (simp; rfl)) (c_pfail ..) ?_ <;> try simp [hk6, h1, h30, h31, v2, w1, w2, -encB, -Int.natCast_mul, -Int.natCast_add]) | (refine callA (by first | rfl | (simp; done) | (simp; rfl)) (c_pone ..) ?_ <;> try simp [hk6, h1, h30, h31, v2, w1, w2, -encB, -Int.natCast_mul, -Int.natCast_add]) | (refine callB (by first | rfl | (simp; done) | (simp; rfl)) (c_pone ..) ?_ <;> try simp [hk6, h1, h30, h31, v2, w1, w2, -encB, -Int.natCast_mul, -Int.natCast_add]) | fail)
          all_goals first | omega | (simp [j3, he, hs1]; done) | (exfalso; rename_i a; rw [j3] at a; exact he a) | trace_state
        · rw [if_neg h3] at j3
          by_cases h4 : 1099511627776 < n + s.oneV.toNat * 128 ^ k
          · rw [if_pos h4] at j3
            have v4 := eq_true (show (1099511627776 : Int) < ((n + s.oneV.toNat * 128 ^ k : Nat) : Int) by omega)
            have he := fail_e s.one (k := 2) (by decide)
            simp [hk6, -encB, -Int.natCast_mul, -Int.natCast_add, -Int.natCast_pow]
            repeat' (first | intro _ | with_reducible refine And.intro ?_ ?_ | exact chkI (by kernel_rfl) | exact backI (by kernel_rfl) | (refine callA (by first | rfl | (simp; done) | (simp; rfl)) (c_pfail ..) ?_ <;> try simp [hk6, h1, v2, v4, w1, w2, -encB, -Int.natCast_mul, -Int.natCast_add]) | (refine callB (by first | rfl | (simp; done) | (simp; rfl)) (c_pfail ..) ?_ <;> try simp [hk6, h1, v2, v4, w1, w2, -encB, -Int.natCast_mul, -Int.natCast_add]) | (refine callA (by first | rfl | (simp; done) | (simp; rfl)) (c_pone ..) ?_ <;> try simp [hk6, h1, v2, v4, w1, w2, -encB, -Int.natCast_mul, -Int.natCast_add]) | (refine callB (by first | rfl | (simp; done) | (simp; rfl)) (c_pone ..) ?_ <;> try simp [hk6, h1, v2, v4, w1, w2, -encB, -Int.natCast_mul, -Int.natCast_add]) | fail)
            all_goals first | omega | (simp [j3, he, hs1]; done) | (exfalso; rename_i a; rw [j3] at a; exact he a) | trace_state
          · rw [if_neg h4] at j3
            have v4 := eq_false (show ¬ (1099511627776 : Int) < ((n + s.oneV.toNat * 128 ^ k : Nat) : Int) by omega)
            simp [hk6, -encB, -Int.natCast_mul, -Int.natCast_add, -Int.natCast_pow]
            repeat' (first | intro _ | with_reducible refine And.intro ?_ ?_ | exact chkI (by kernel_rfl) | exact backI (by kernel_rfl) | (refine callA (by first | rfl | (simp; done) | (simp; rfl)) (c_pfail ..) ?_ <;> try simp [hk6, h1, v2, v4, w1, w2, -encB, -Int.natCast_mul, -Int.natCast_add]) | (refine callB (by first | rfl | (simp; done) | (simp; rfl)) (c_pfail ..) ?_ <;> try simp [hk6, h1, v2, v4, w1, w2, -encB, -Int.natCast_mul, -Int.natCast_add]) | (refine callA (by first | rfl | (simp; done) | (simp; rfl)) (c_pone ..) ?_ <;> try simp [hk6, h1, v2, v4, w1, w2, -encB, -Int.natCast_mul, -Int.natCast_add]) | (refine callB (by first | rfl | (simp; done) | (simp; rfl)) (c_pone ..) ?_ <;> try simp [hk6, h1, v2, v4, w1, w2, -encB, -Int.natCast_mul, -Int.natCast_add]) | fail)
            all_goals first | omega | (simp [j3, h1]; done) | (exfalso; rename_i a; rw [j3] at a; contradiction) | trace_state
    · rw [if_pos h1] at j3
      simp [hk6, -encB, -Int.natCast_mul, -Int.natCast_add, -Int.natCast_pow]
      repeat' (first | intro _ | with_reducible refine And.intro ?_ ?_ | exact chkI (by kernel_rfl) | exact backI (by kernel_rfl) | (refine callA (by first | rfl | (simp; done) | (simp; rfl)) (c_pfail ..) ?_ <;> try simp [hk6, h1, -encB, -Int.natCast_mul, -Int.natCast_add]) | (refine callB (by first | rfl | (simp; done) | (simp; rfl)) (c_pfail ..) ?_ <;> try simp [hk6, h1, -encB, -Int.natCast_mul, -Int.natCast_add]) | (refine callA (by first | rfl | (simp; done) | (simp; rfl)) (c_pone ..) ?_ <;> try simp [hk6, h1, -encB, -Int.natCast_mul, -Int.natCast_add]) | (refine callB (by first | rfl | (simp; done) | (simp; rfl)) (c_pone ..) ?_ <;> try simp [hk6, h1, -encB, -Int.natCast_mul, -Int.natCast_add]) | fail)
      all_goals first | omega | (simp [j3, h1]; done) | (exfalso; rename_i a; rw [j3] at a; contradiction) | trace_state
  · obtain rfl : k = 6 := by omega
    rw [show 6 - 6 = 0 from rfl, numGo] at j3
    have he := fail_e s (k := 2) (by decide)
    simp [-encB]
    repeat' (first | intro _ | with_reducible refine And.intro ?_ ?_ | exact chkI (by kernel_rfl) | exact backI (by kernel_rfl) | (refine callA (by first | rfl | (simp; done) | (simp; rfl)) (c_pfail ..) ?_ <;> try simp [-encB]) | (refine callB (by first | rfl | (simp; done) | (simp; rfl)) (c_pfail ..) ?_ <;> try simp [-encB]) | (refine callA (by first | rfl | (simp; done) | (simp; rfl)) (c_pone ..) ?_ <;> try simp [-encB]) | (refine callB (by first | rfl | (simp; done) | (simp; rfl)) (c_pone ..) ?_ <;> try simp [-encB]) | fail)
    all_goals first | (simp [j3, he]; done) | (exfalso; rename_i a; rw [j3] at a; exact he a) | trace_state
theorem few_r (s : Rst) : (if s.num.e = 0 ∧ 8 < s.numR then s.num.fail 2 else s.num) = s.few := by
  unfold Rst.few Rst.numR
  by_cases h : s.num.e = 0
  · simp [h]
  · have : ¬ ((8 : Int) < 0) := by omega
    by_cases h8 : 8 < s.numV
    · simp [h, h8, Rst.fail]
    · simp [h, h8]
theorem fewV_r (s : Rst) : (if s.num.e = 0 ∧ 8 < s.numR then 0 else s.numR) = s.fewV := by
  have := few_r s
  unfold Rst.fewV
  rw [← this]
  unfold Rst.numR
  by_cases h : s.num.e = 0
  · by_cases h8 : 8 < s.numV
    · simp [h, h8, fail_e]
    · simp [h, h8]
  · simp [h]
theorem c_pfew (b : List UInt8) (e : Int) : Pure Try.prog 93 [.agg [.sl (encB b), i64 e]] (.tup [.agg [.sl (encB (Rst.few ⟨b, e⟩).b), i64 (Rst.few ⟨b, e⟩).e], i64 (Rst.fewV ⟨b, e⟩)]) := by
  rw [← few_r, ← fewV_r]
  refine pureQ_of_aw dOk Try.func93 rfl rfl rfl rfl rfl ?_
  simp [Try.f93, -encB]
  repeat' (first | intro _ | with_reducible refine And.intro ?_ ?_ | exact chkI (by kernel_rfl) | exact backI (by kernel_rfl) | (refine callA (by first | rfl | (simp; done) | (simp; rfl)) (c_pfail ..) ?_ <;> try simp [-encB]) | (refine callB (by first | rfl | (simp; done) | (simp; rfl)) (c_pfail ..) ?_ <;> try simp [-encB]) | (refine callA (by first | rfl | (simp; done) | (simp; rfl)) (c_pnum ..) ?_ <;> try simp [-encB]) | (refine callB (by first | rfl | (simp; done) | (simp; rfl)) (c_pnum ..) ?_ <;> try simp [-encB]) | fail)
  all_goals first | omega | (simp [*, -encB]; done) | (rw [if_neg (by omega)]; done) | (split <;> simp_all; done) | trace_state
theorem ba_snoc (l : List UInt8) (x : UInt8) : (⟨l.toArray⟩ : ByteArray) ++ ⟨#[x]⟩ = ⟨(l ++ [x]).toArray⟩ := by
  apply ByteArray.ext
  simp
theorem ba_size (l : List UInt8) : (⟨l.toArray⟩ : ByteArray).size = l.length := by simp [ByteArray.size]
theorem tb_one (x : UInt8) : toBytes [[V.int .u8 ((x.toNat : Int) % 256)]] = some [x] := by
  have : ((x.toNat : Int) % 256) = x.toNat := by have := x.toNat_lt; omega
  rw [this]
  simp [toBytes]
theorem c_ptext (b : List UInt8) (e : Int) : Pure Try.prog 94 [.agg [.sl (encB b), i64 e]] (.tup [.agg [.sl (encB (Rst.text ⟨b, e⟩).b), i64 (Rst.text ⟨b, e⟩).e], .str (Rst.textV ⟨b, e⟩)]) := by
  have hf := fewV_le ⟨b, e⟩
  obtain ⟨n, hn⟩ : ∃ n : Nat, Rst.fewV ⟨b, e⟩ = n := ⟨(Rst.fewV ⟨b, e⟩).toNat, by omega⟩
  unfold Rst.text Rst.textV
  rw [hn] at hf ⊢
  refine pureQ_of_aw dOk Try.func94 rfl rfl rfl rfl rfl ?_
  simp [Try.f94, -encB]
  repeat' (first | intro _ | with_reducible refine And.intro ?_ ?_ | exact chkI (by kernel_rfl) | exact backI (by kernel_rfl) | (refine callA (by first | rfl | (simp; done) | (simp; rfl)) (c_pone ..) ?_ <;> try simp [hn, -encB]) | (refine callB (by first | rfl | (simp; done) | (simp; rfl)) (c_pone ..) ?_ <;> try simp [hn, -encB]) | (refine callA (by first | rfl | (simp; done) | (simp; rfl)) (c_pfew ..) ?_ <;> try simp [hn, -encB]) | (refine callB (by first | rfl | (simp; done) | (simp; rfl)) (c_pfew ..) ?_ <;> try simp [hn, -encB]) | fail)
  refine aw_loopKM (α := {i : Nat // i ≤ n}) [1, 2, 3, 4, 29, 30] (fun i => [(6, i64 i.1), (5, .str ⟨(Rst.bytes i.1 (Rst.few ⟨b, e⟩)).toArray⟩)]) (fun i => [(0, .box false 105 [.sl (encB (Rst.skip i.1 (Rst.few ⟨b, e⟩)).b), i64 (Rst.skip i.1 (Rst.few ⟨b, e⟩)).e]), (1, .box false 105 [.nl, i64 0])]) 2 (fun i => n - i.1) ⟨0, by simp⟩ (St.to_chk [] (by simp [Rst.skip, Rst.bytes, -encB])) ?_
  rintro ⟨i, j1⟩
  dsimp only
  have hlen : (Rst.bytes i (Rst.few ⟨b, e⟩)).length = i := by
    generalize Rst.few ⟨b, e⟩ = s
    clear j1
    induction i generalizing s with
    | zero => rfl
    | succ i ih => simp [Rst.bytes, ih]
  by_cases hi : i < n
  · have hw := wrI hi (by omega)
    have e1 := skip_succ i (Rst.few ⟨b, e⟩)
    have e2 := bytes_succ i (Rst.few ⟨b, e⟩)
    simp [hi, -encB]
    repeat' (first | intro _ | with_reducible refine And.intro ?_ ?_ | exact chkI (by kernel_rfl) | exact backI (by kernel_rfl) | (refine callA (by first | rfl | (simp; done) | (simp; rfl)) (c_pone ..) ?_ <;> try simp [hi, hn, tb_one, ba_size, hlen, -encB]) | (refine callB (by first | rfl | (simp; done) | (simp; rfl)) (c_pone ..) ?_ <;> try simp [hi, hn, tb_one, ba_size, hlen, -encB]) | (refine callA (by first | rfl | (simp; done) | (simp; rfl)) (c_pfew ..) ?_ <;> try simp [hi, hn, tb_one, ba_size, hlen, -encB]) | (refine callB (by first | rfl | (simp; done) | (simp; rfl)) (c_pfew ..) ?_ <;> try simp [hi, hn, tb_one, ba_size, hlen, -encB]) | fail)
    all_goals first | omega | (refine Exists.intro (i + 1) (And.intro (by omega) (And.intro (by omega) (St.to_chk [] ?_))); rw [e1, e2, ← ba_snoc]; simp [hw, -encB]; done) | trace_state
  · obtain rfl : i = n := by omega
    simp [-encB]
    repeat' (first | intro _ | with_reducible refine And.intro ?_ ?_ | exact chkI (by kernel_rfl) | exact backI (by kernel_rfl) | (refine callA (by first | rfl | (simp; done) | (simp; rfl)) (c_pone ..) ?_ <;> try simp [toBytes_encB, -encB]) | (refine callB (by first | rfl | (simp; done) | (simp; rfl)) (c_pone ..) ?_ <;> try simp [toBytes_encB, -encB]) | (refine callA (by first | rfl | (simp; done) | (simp; rfl)) (c_pfew ..) ?_ <;> try simp [toBytes_encB, -encB]) | (refine callB (by first | rfl | (simp; done) | (simp; rfl)) (c_pfew ..) ?_ <;> try simp [toBytes_encB, -encB]) | fail)
    all_goals first | omega | (simp [-encB]; done) | trace_state
theorem c_ptag (b : List UInt8) (e : Int) (c : Nat) : Pure Try.prog 63 [.agg [.sl (encB b), i64 e], i64 (c : Int)] (.agg [.sl (encB (Rst.tag ⟨b, e⟩ c).b), i64 (Rst.tag ⟨b, e⟩ c).e]) := by
  by_cases h : (Rst.oneV ⟨b, e⟩).toNat = c
  · have h1 : Rst.tag ⟨b, e⟩ c = Rst.one ⟨b, e⟩ := if_pos h
    have h' := eq_true (show ((Rst.oneV ⟨b, e⟩).toNat : Int) = c by omega)
    refine pureQ_of_aw dOk Try.func63 rfl rfl rfl rfl rfl ?_
    simp [Try.f63, h', -encB]
    repeat' (first | intro _ | with_reducible refine And.intro ?_ ?_ | exact chkI (by kernel_rfl) | exact backI (by kernel_rfl) | (refine callA (by first | rfl | (simp; done) | (simp; rfl)) (c_pfail ..) ?_ <;> try simp [h', -encB]) | (refine callB (by first | rfl | (simp; done) | (simp; rfl)) (c_pfail ..) ?_ <;> try simp [h', -encB]) | (refine callA (by first | rfl | (simp; done) | (simp; rfl)) (c_pone ..) ?_ <;> try simp [h', -encB]) | (refine callB (by first | rfl | (simp; done) | (simp; rfl)) (c_pone ..) ?_ <;> try simp [h', -encB]) | fail)
    all_goals first | (simp [h1, -encB]; done) | omega
  · have h1 : Rst.tag ⟨b, e⟩ c = (Rst.one ⟨b, e⟩).fail 4 := if_neg h
    have h' := eq_false (show ¬ ((Rst.oneV ⟨b, e⟩).toNat : Int) = c by omega)
    refine pureQ_of_aw dOk Try.func63 rfl rfl rfl rfl rfl ?_
    simp [Try.f63, h', -encB]
    repeat' (first | intro _ | with_reducible refine And.intro ?_ ?_ | exact chkI (by kernel_rfl) | exact backI (by kernel_rfl) | (refine callA (by first | rfl | (simp; done) | (simp; rfl)) (c_pfail ..) ?_ <;> try simp [h', -encB]) | (refine callB (by first | rfl | (simp; done) | (simp; rfl)) (c_pfail ..) ?_ <;> try simp [h', -encB]) | (refine callA (by first | rfl | (simp; done) | (simp; rfl)) (c_pone ..) ?_ <;> try simp [h', -encB]) | (refine callB (by first | rfl | (simp; done) | (simp; rfl)) (c_pone ..) ?_ <;> try simp [h', -encB]) | fail)
    all_goals first | (simp [h1, -encB]; done) | omega
end Go.Proofs.Ytalkadbpdaoifaa.AX
