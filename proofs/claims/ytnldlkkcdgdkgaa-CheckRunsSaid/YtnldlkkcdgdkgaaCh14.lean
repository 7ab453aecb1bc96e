/- Trips as the program has them. -/
import Derived.Test.YtnldlkkcdgdkgaaCh5
namespace Go.Proofs.Ytnldlkkcdgdkgaa.AX
open Go Go.RowKit
set_option linter.unusedSimpArgs false
set_option linter.unusedVariables false
set_option maxRecDepth 100000
set_option maxHeartbeats 4000000
def gM (p : List Trp) (t : Trp) : Nat → List (Nat × AO)
  | 0 => [(0, .row false 38 7 (p.map Trp.cs)), (11, .row false 47 2 (t.ws.map Wr.cs)), (13, .box false 38 [i64 t.cl, i64 t.nm, i64 t.tm, i64 t.ac, .nl, .rf 11, i64 t.oc])]
  | k + 1 => [(0, .row false 38 7 (p.map Trp.cs)), (11, .row false 47 2 (t.ws.map Wr.cs)), (13, .box false 38 [i64 t.cl, i64 t.nm, i64 t.tm, i64 t.ac, .rf 15, .rf 11, i64 t.oc]), (15, .row false 52 4 ((t.rs.take (k + 1)).map Sn.cs))]
def gE (p : List Trp) (t : Trp) : List (Nat × AO) := [(0, .row false 38 7 (p.map Trp.cs)), (13, .box false 38 t.cs)]
def gN (p : List Trp) (t : Trp) (k : Nat) : List (Nat × AO) := if k = t.rs.length then gE p t else gM p t k
theorem c_given (l : List Trp) (hl : l.length ≤ 100 := by assumption) (hs : ∀ t ∈ l, t.Small := by assumption) : Pure Try.prog 11 [.sl (l.map Trp.cs)] (.sl (l.map Trp.cs)) := by
  refine pureQ_of_aw dOk Try.func11 rfl rfl rfl rfl rfl ?_
  simp [Try.f11]
  refine aw_loopKM (α := {i : Nat // i ≤ l.length}) [2, 9, 10, 51] (fun i => [(11, i64 i.1), (3, .rf 0)]) (fun i => [(0, .row false 38 7 ((l.take i.1).map Trp.cs))]) 1 (fun i => l.length - i.1) ⟨0, by simp⟩ ((St.to_own 3 38 7 rfl (by simp)).trans (St.to_chk [] (by simp))) ?_
  rintro ⟨i, j1⟩
  dsimp only
  by_cases hi : i < l.length
  · obtain ⟨t, ht⟩ := getL_some hi
    have hw := wrI hi (by omega)
    have hsm := hs t (List.mem_of_getElem? ht)
    have r1 := hsm.rl
    have r2 := hsm.wl
    have htk : (l.map Trp.cs).take (i + 1) = (l.map Trp.cs).take i ++ [t.cs] := by rw [List.take_add_one, List.getElem?_map, ht]; rfl
    simp [ht]
    refine ⟨fun _ => ?_, fun h => by omega⟩
    repeat' (first | intro _ | with_reducible refine And.intro ?_ ?_ | exact chkI (by kernel_rfl) | exact backI (by kernel_rfl) | fail)
    all_goals try omega
    refine aw_loopKM (α := {k : Nat // k ≤ t.rs.length}) [2, 3, 5, 6, 9, 10, 11, 12, 13, 14, 15, 16, 17, 18, 19, 20, 21, 22, 23, 24, 25, 26, 27, 28, 46, 47, 48, 49, 50, 51] (fun k => [(29, i64 k.1)]) (fun k => gN (l.take i) t k.1) 16 (fun k => t.rs.length - k.1) ⟨0, by simp⟩ ?_ ?_
    · by_cases h0 : t.rs.length = 0
      · have hnil : t.rs = [] := List.eq_nil_of_length_eq_zero h0
        have e : gN (l.take i) t 0 = gE (l.take i) t := if_pos h0.symm
        dsimp only
        rw [e]
        refine (St.to_fz 11).trans ((St.to_tell 13 t.cs (T := 38) (cs := [i64 t.cl, i64 t.nm, i64 t.tm, i64 t.ac, .nl, .rf 11, i64 t.oc]) ?_ ?_).trans (St.to_chk [] ?_)) <;> simp [gE, hnil]
      · have e : gN (l.take i) t 0 = gM (l.take i) t 0 := if_neg (fun h => h0 h.symm)
        dsimp only
        rw [e]
        exact St.to_chk [] (by simp [gM])
    rintro ⟨k, k1⟩
    dsimp only
    by_cases hk : k < t.rs.length
    · obtain ⟨x, hx⟩ := getL_some hk
      have hwk := wrI hk (by omega)
      have hkm : (t.rs.map Sn.cs).take (k + 1) = (t.rs.map Sn.cs).take k ++ [x.cs] := by rw [List.take_add_one, List.getElem?_map, hx]; rfl
      have eM : gN (l.take i) t k = gM (l.take i) t k := if_neg (by omega)
      rw [eM]
      by_cases hlast : k + 1 = t.rs.length
      · have e1 : gN (l.take i) t (k + 1) = gE (l.take i) t := if_pos hlast
        have htl : (t.rs.map Sn.cs).take (k + 1) = t.rs.map Sn.cs := List.take_of_length_le (by simp; omega)
        rw [htl] at hkm
        rcases k with _ | k
        · have hkm1 : t.rs.map Sn.cs = [x.cs] := by simpa using hkm
          simp [hx, gM]
          refine And.intro (fun _ => ?_) (by first | omega | (intro h; rw [h] at hk; simp at hk) | (intro h; simp [h] at hk) | (simp; omega) | (simp_all; done))
          refine Exists.intro 1 (And.intro (by omega) (And.intro (by omega) ?_))
          simp only [Nat.zero_add] at e1
          rw [e1]
          refine (St.to_fz 18).trans ((St.to_fz 11).trans ((St.to_tell 13 t.cs (T := 38) (cs := [i64 t.cl, i64 t.nm, i64 t.tm, i64 t.ac, .rf 18, .rf 11, i64 t.oc]) ?_ ?_).trans (St.to_chk [] ?_))) <;> simp [gE, hkm1]
        · have hwk2 : IntKind.i64.wrap ((k : Int) + 1 + 1) = (k : Int) + 1 + 1 := wr64 (by omega) (by omega)
          have hwk3 : (k : Int) + 1 + 1 = (k : Int) + 2 := by omega
          have hwk4 : IntKind.i64.wrap ((k : Int) + 2) = (k : Int) + 2 := wr64 (by omega) (by omega)
          have hkm2 : (t.rs.map Sn.cs).take (k + 1) ++ [[.str x.key, i64 x.tm, i64 x.ac, .str x.val]] = t.rs.map Sn.cs := hkm.symm
          simp [hx, gM]
          refine And.intro (fun _ => ⟨by omega, ⟨by omega, by omega⟩, ?_⟩) (by omega)
          refine Exists.intro (k + 2) (And.intro (by omega) (And.intro (by omega) ?_))
          rw [e1]
          refine (St.to_fz 18).trans ((St.to_fz 11).trans ((St.to_tell 13 t.cs (T := 38) (cs := [i64 t.cl, i64 t.nm, i64 t.tm, i64 t.ac, .rf 18, .rf 11, i64 t.oc]) ?_ ?_).trans (St.to_chk [] ?_))) <;> simp [gE, hkm2, hwk2, hwk3, hwk4]
      · have e1 : gN (l.take i) t (k + 1) = gM (l.take i) t (k + 1) := if_neg hlast
        rcases k with _ | k
        · have hkm0 : (t.rs.map Sn.cs).take 1 = [x.cs] := by simpa using hkm
          simp [hx, gM]
          refine And.intro (fun _ => ?_) (by first | omega | (intro h; rw [h] at hk; simp at hk) | (intro h; simp [h] at hk) | (simp; omega) | (simp_all; done))
          refine Exists.intro 1 (And.intro (by omega) (And.intro (by omega) ?_))
          simp only [Nat.zero_add] at e1
          rw [e1]
          refine St.to_chk [(15, 18)] ?_
          simp [gM, hkm0]
        · have hwk2 : IntKind.i64.wrap ((k : Int) + 1 + 1) = (k : Int) + 1 + 1 := wr64 (by omega) (by omega)
          have hwk3 : (k : Int) + 1 + 1 = (k : Int) + 2 := by omega
          have hwk4 : IntKind.i64.wrap ((k : Int) + 2) = (k : Int) + 2 := wr64 (by omega) (by omega)
          simp [hx, gM]
          refine And.intro (fun _ => ⟨by omega, ⟨by omega, by omega⟩, ?_⟩) (by omega)
          refine Exists.intro (k + 2) (And.intro (by omega) (And.intro (by omega) ?_))
          rw [e1]
          refine St.to_chk [(15, 18)] ?_
          simp [gM, hkm, hwk2, hwk3, hwk4]
    · have e1 : gN (l.take i) t k = gE (l.take i) t := if_pos (by omega)
      rw [e1]
      simp [hk, gE]
      refine ⟨⟨by omega, by omega⟩, Exists.intro (i + 1) (And.intro (by omega) (And.intro (by omega) (St.to_chk [(0, 17)] (by simp [hw, htk]))))⟩
  · rw [List.take_of_length_le (by omega)]
    simp [hi]
    repeat' (first | intro _ | with_reducible refine And.intro ?_ ?_ | exact chkI (by kernel_rfl) | exact backI (by kernel_rfl) | fail)
    all_goals first | omega
end Go.Proofs.Ytnldlkkcdgdkgaa.AX
