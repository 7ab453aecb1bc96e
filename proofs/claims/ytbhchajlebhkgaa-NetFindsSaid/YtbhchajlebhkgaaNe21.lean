/- Nets: steps, and what stays true. -/
import Derived.Test.YtbhchajlebhkgaaNe15
import Derived.Test.YtbhchajlebhkgaaNe16
import Derived.Test.YtbhchajlebhkgaaNe17
import Derived.Test.YtbhchajlebhkgaaNe18
import Derived.Test.YtbhchajlebhkgaaNe19
import Derived.Test.YtbhchajlebhkgaaNe20
import Derived.Test.YtbhchajlebhkgaaNe9
namespace Go.Proofs.Ytbhchajlebhkgaa.AX
open Go Go.RowKit
set_option linter.unusedSimpArgs false
set_option linter.unusedVariables false
set_option maxRecDepth 100000
set_option maxHeartbeats 4000000
structure NetS.Inv (n : NetS) (room : Int) (i : Nat) : Prop where
  ok : n.Ok
  rm : n.room = room
  le : (n.l.length : Int) ≤ room
  right : ∀ m ∈ n.l, m.right = true
  sum : n.sent = n.came + n.lost + n.l.length
  sent : n.sent ≤ i
def NetS.step (n : NetS) (d : DoS) : NetS :=
  if d.verb = 0 then (if d.m.right = true then (if n.room ≤ (n.l.length : Int) then n.drop else n.put d.m) else n)
  else if d.verb = 2 then (match n.at d.k with | some _ => n.took d.k.toNat | none => n)
  else if d.verb = 3 then (match n.at d.k with | some _ => n.lose d.k.toNat | none => n)
  else if d.verb = 4 then (match n.at d.k with | some m => if n.room ≤ (n.l.length : Int) then n else n.put m | none => n)
  else n
theorem inv_next {n : NetS} {room : Int} {i : Nat} (h : n.Inv room i) : n.Inv room (i + 1) := by
  obtain ⟨a, b, c, d, e, f⟩ := h
  exact ⟨a, b, c, d, e, by omega⟩
theorem inv_drop {n : NetS} {room : Int} {i : Nat} (h : n.Inv room i) (hi : i ≤ 500) : n.drop.Inv room (i + 1) := by
  obtain ⟨a, b, c, d, e, f⟩ := h
  have g1 := a.came
  have g2 := a.lost
  exact ⟨drop_ok a (by omega) (by omega), b, c, d, by simp only [NetS.drop]; omega, by simp only [NetS.drop]; omega⟩
theorem inv_put {n : NetS} {room : Int} {i : Nat} {m : Msg} (h : n.Inv room i) (hi : i ≤ 500) (hm : m.r.c.Small) (hr : m.right = true) (hl : ¬ room ≤ (n.l.length : Int)) (hroom : room ≤ 256) : (n.put m).Inv room (i + 1) := by
  obtain ⟨a, b, c, d, e, f⟩ := h
  refine ⟨put_ok a hm (by omega) (by omega), b, ?_, fun x hx => ?_, ?_, by simp only [NetS.put]; omega⟩
  · simp only [NetS.put, List.length_append, List.length_cons, List.length_nil]; omega
  · simp only [NetS.put, List.mem_append, List.mem_singleton] at hx
    rcases hx with hx | hx
    · exact d x hx
    · rw [hx]; exact hr
  · simp only [NetS.put, List.length_append, List.length_cons, List.length_nil]; omega
theorem out_len {n : NetS} {k : Int} {m : Msg} (h : n.at k = some m) : (n.out k.toNat).l.length + 1 = n.l.length := by
  obtain ⟨h1, h2, h3⟩ := NetS.at_some h
  simp only [NetS.out, List.length_append, List.length_take, List.length_drop]; omega
theorem out_mem {n : NetS} {k : Nat} {m : Msg} (h : m ∈ (n.out k).l) : m ∈ n.l := by
  simp only [NetS.out, List.mem_append] at h
  rcases h with h | h
  · exact List.mem_of_mem_take h
  · exact List.mem_of_mem_drop h
theorem inv_took {n : NetS} {room : Int} {i : Nat} {k : Int} {m : Msg} (h : n.Inv room i) (hi : i ≤ 500) (hk : n.at k = some m) : (n.took k.toNat).Inv room (i + 1) := by
  obtain ⟨a, b, c, d, e, f⟩ := h
  have g1 := a.came
  have g2 := a.lost
  have g3 := out_len hk
  exact ⟨took_ok a (by omega), b, by simp only [NetS.took]; omega, fun x hx => d x (out_mem hx), by simp only [NetS.took, NetS.out] at g3 ⊢; omega, by simp only [NetS.took, NetS.out]; omega⟩
theorem inv_lose {n : NetS} {room : Int} {i : Nat} {k : Int} {m : Msg} (h : n.Inv room i) (hi : i ≤ 500) (hk : n.at k = some m) : (n.lose k.toNat).Inv room (i + 1) := by
  obtain ⟨a, b, c, d, e, f⟩ := h
  have g1 := a.came
  have g2 := a.lost
  have g3 := out_len hk
  obtain ⟨o1, o2, o3, o4, o5⟩ := NetS.out_ok (k := k.toNat) a
  exact ⟨⟨o1, o2, by simp only [NetS.lose]; omega, o4, o5⟩, b, by simp only [NetS.lose]; omega, fun x hx => d x (out_mem hx), by simp only [NetS.lose, NetS.out] at g3 ⊢; omega, by simp only [NetS.lose, NetS.out]; omega⟩
theorem inv_step {n : NetS} {room : Int} {i : Nat} {d : DoS} (h : n.Inv room i) (hi : i ≤ 500) (hm : d.m.r.c.Small) (hroom : room ≤ 256) : (n.step d).Inv room (i + 1) := by
  have hrm := h.rm
  unfold NetS.step
  split
  · split
    · split
      · exact inv_drop h hi
      · exact inv_put h hi hm (by assumption) (by omega) hroom
    · exact inv_next h
  · split
    · split
      · exact inv_took h hi (by assumption)
      · exact inv_next h
    · split
      · split
        · exact inv_lose h hi (by assumption)
        · exact inv_next h
      · split
        · split
          · rename_i m hk
            have hmem := List.mem_of_getElem? (NetS.at_some hk).2.2
            split
            · exact inv_next h
            · exact inv_put h hi (h.ok.small m hmem) (h.right m hmem) (by omega) hroom
          · exact inv_next h
        · exact inv_next h
theorem c_does (n : NetS) (d : DoS) (room : Int) (i : Nat) (h : n.Inv room i := by assumption) (hm : d.m.r.c.Small := by assumption) : Fn Try.prog 20 [.ptr 0 0, .agg n.rcs, .agg d.cs] [(0, nbox n)] 1 (.tup [.agg (n.step d).rcs, .bool true]) [(0, nbox (n.step d))] 1 := by
  have hok := h.ok
  have hrm := h.rm
  have hle := h.le
  have hfull : ((n.l.length : Int) = n.room) ↔ (n.room ≤ (n.l.length : Int)) := by omega
  unfold NetS.step
  by_cases v0 : d.verb = 0
  · rw [if_pos v0]
    by_cases hr : d.m.right = true
    · rw [if_pos hr]
      by_cases hf : n.room ≤ (n.l.length : Int)
      · rw [if_pos hf]
        exact c_doesFull n d hok hm (eq_true v0) hr (eq_true (hfull.2 hf)) (eq_true hf)
      · rw [if_neg hf]
        exact c_doesSend n d hok hm (eq_true v0) hr (eq_false (fun e => hf (hfull.1 e))) (eq_false hf)
    · rw [if_neg hr]
      exact c_doesNo n d hok hm (eq_true v0) (by simpa using hr)
  · rw [if_neg v0]
    have e0 := eq_false v0
    by_cases v1 : d.verb = 1
    · rw [if_neg (by omega), if_neg (by omega), if_neg (by omega)]
      cases hk : n.at d.k with
      | none => exact c_doesLookNo n d hok e0 (eq_true v1) hk
      | some m => exact c_doesLook n d m hok e0 (eq_true v1) hk
    · have e1 := eq_false v1
      by_cases v2 : d.verb = 2
      · rw [if_pos v2]
        cases hk : n.at d.k with
        | none => exact c_doesTakeNo n d hok e0 e1 (eq_true v2) hk
        | some m => exact c_doesTake n d m hok e0 e1 (eq_true v2) hk
      · rw [if_neg v2]
        have e2 := eq_false v2
        by_cases v3 : d.verb = 3
        · rw [if_pos v3]
          cases hk : n.at d.k with
          | none => exact c_doesLoseNo n d hok e0 e1 e2 (eq_true v3) hk
          | some m => exact c_doesLose n d m hok e0 e1 e2 (eq_true v3) hk
        · rw [if_neg v3]
          have e3 := eq_false v3
          by_cases v4 : d.verb = 4
          · rw [if_pos v4]
            cases hk : n.at d.k with
            | none => exact c_doesTwiceNo n d hok e0 e1 e2 e3 (eq_true v4) hk
            | some m =>
              have hr := h.right m (List.mem_of_getElem? (NetS.at_some hk).2.2)
              dsimp only
              by_cases hf : n.room ≤ (n.l.length : Int)
              · rw [if_pos hf]
                exact c_doesTwiceFull n d m hok e0 e1 e2 e3 (eq_true v4) hk (eq_true (hfull.2 hf)) (eq_true hf)
              · rw [if_neg hf]
                exact c_doesTwice n d m hok e0 e1 e2 e3 (eq_true v4) hk hr (eq_false (fun e => hf (hfull.1 e))) (eq_false hf)
          · rw [if_neg v4]
            exact c_doesOther n d hok e0 e1 e2 e3 (eq_false v4)
end Go.Proofs.Ytbhchajlebhkgaa.AX
