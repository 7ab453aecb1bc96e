/- Whether two have one name, or two committed ones one time. -/
import Derived.Test.YtnldlkkcdgdkgaaCh5
import Derived.Test.YtnldlkkcdgdkgaaAxAF
namespace Go.Proofs.Ytnldlkkcdgdkgaa.AX
open Go Go.RowKit
set_option linter.unusedSimpArgs false
set_option linter.unusedVariables false
set_option maxRecDepth 100000
set_option maxHeartbeats 4000000
def kV (p : Int × Int) : V := .agg [i64 p.1, i64 p.2]
def Kp (L : List (Int × Int)) : List (V × V) := L.map fun p => (kV p, i64 1)
@[simp] theorem refsL_append : ∀ a b : List V, refsL (a ++ b) = refsL a ++ refsL b
  | [], b => rfl
  | v :: r, b => by rw [List.cons_append, refsL, refsL, refsL_append r b, List.append_assoc]
@[simp] theorem Kp_ren (ρ : Nat → Nat) (L : List (Int × Int)) : (Kp L).map (fun p => (p.1, V.ren ρ p.2)) = Kp L := by
  induction L with
  | nil => rfl
  | cons a r ih =>
    simp only [Kp, List.map_cons] at ih ⊢
    rw [ih]
    rfl
@[simp] theorem Kp_refs (L : List (Int × Int)) : refsL ((Kp L).map fun x => x.2) = [] := by
  induction L with
  | nil => rfl
  | cons a r ih =>
    simp only [Kp, List.map_cons] at ih ⊢
    rw [refsL, ih]
    rfl
theorem same_kV (p q : Int × Int) : sameV (kV p) (kV q) = some (decide (p = q)) := by
  obtain ⟨a, b⟩ := p
  obtain ⟨c, d⟩ := q
  simp [kV, sameV, sameP, Bool.decide_and]
theorem findK_none {p : Int × Int} : ∀ {L : List (Int × Int)} (i : Nat), p ∉ L → findV (kV p) (Kp L) i = some none
  | [], i, h => rfl
  | q :: r, i, h => by
    simp only [List.mem_cons, not_or] at h
    simp only [Kp, List.map_cons, findV, same_kV, h.1, decide_false]
    exact findK_none (i + 1) h.2
theorem findK_some {p : Int × Int} : ∀ {L : List (Int × Int)}, p ∈ L → ∃ j, j < L.length ∧ (Kp L)[j]? = some (kV p, i64 1) ∧ ∀ i, findV (kV p) (Kp L) i = some (some (i + j, i64 1)) ∧ ∀ v, findV (kV p) ((Kp L).set j (kV p, v)) i = some (some (i + j, v))
  | [], h => by cases h
  | q :: r, h => by
    by_cases hq : p = q
    · subst hq
      refine ⟨0, by simp, rfl, fun i => ⟨?_, fun v => ?_⟩⟩
      · simp only [Kp, List.map_cons, List.map_nil, List.set_cons_zero, findV, same_kV, decide_true, Nat.add_zero, List.nil_append, List.length_nil]
      · simp only [Kp, List.map_cons, List.map_nil, List.set_cons_zero, findV, same_kV, decide_true, Nat.add_zero, List.nil_append, List.length_nil]
    · obtain ⟨j, h1, h2, h3⟩ := findK_some (L := r) (by simpa [hq] using h)
      refine ⟨j + 1, by simp; omega, by simpa [Kp] using h2, fun i => ⟨?_, fun v => ?_⟩⟩
      · have := (h3 (i + 1)).1
        simp only [Kp, List.map_cons, findV, same_kV, hq, decide_false]
        rw [show i + (j + 1) = i + 1 + j by omega]
        exact this
      · have := (h3 (i + 1)).2 v
        simp only [Kp, List.map_cons, List.set_cons_succ, findV, same_kV, hq, decide_false]
        rw [show i + (j + 1) = i + 1 + j by omega]
        exact this
theorem Kp_push (L : List (Int × Int)) (p : Int × Int) : Kp L ++ [(kV p, i64 1)] = Kp (L ++ [p]) := by simp [Kp]
theorem findK_push {p : Int × Int} : ∀ {L : List (Int × Int)} (i : Nat), p ∉ L → findV (kV p) (Kp (L ++ [p])) i = some (some (i + L.length, i64 1))
  | [], i, h => by simp only [Kp, List.map_cons, List.map_nil, List.set_cons_zero, findV, same_kV, decide_true, Nat.add_zero, List.nil_append, List.length_nil]
  | q :: r, i, h => by
    simp only [List.mem_cons, not_or] at h
    have := findK_push (L := r) (i + 1) h.2
    simp only [List.cons_append, Kp, List.map_cons, findV, same_kV, h.1, decide_false, List.length_cons] at this ⊢
    rw [show i + (r.length + 1) = i + 1 + r.length by omega]
    exact this
@[simp] theorem Kp_len (L : List (Int × Int)) : (Kp L).length = L.length := by simp [Kp]
theorem findK_last {p : Int × Int} {v : V} : ∀ {L : List (Int × Int)} (i : Nat), p ∉ L → findV (kV p) (Kp L ++ [(kV p, v)]) i = some (some (i + L.length, v))
  | [], i, h => by simp only [Kp, List.map_nil, List.nil_append, findV, same_kV, decide_true, Nat.add_zero, List.length_nil]
  | q :: r, i, h => by
    simp only [List.mem_cons, not_or] at h
    have := findK_last (L := r) (v := v) (i + 1) h.2
    simp only [List.cons_append, Kp, List.map_cons, findV, same_kV, h.1, decide_false, List.length_cons] at this ⊢
    rw [show i + (r.length + 1) = i + 1 + r.length by omega]
    exact this
def nmP (t : Trp) : Int × Int := (t.cl, t.nm)
def tmP (t : Trp) : Int × Int := (t.tm, t.ac)
def clashT (p : List Trp) (t : Trp) : Bool := decide (nmP t ∈ p.map nmP) || (isCm t && decide (tmP t ∈ (p.filter isCm).map tmP))
def twG (p : List Trp) : List Trp → Bool
  | [] => false
  | t :: r => clashT p t || twG (p ++ [t]) r
def twiceS (l : List Trp) : Bool := twG [] l
def afInc : List (List Nat) := [[], [], [1], [0, 2], [3], [0, 2, 0, 1, 2], [5], [0, 6, 4, 5, 0, 1, 2, 3, 4, 5, 6]]
theorem c_twice (l : List Trp) (hl : l.length ≤ 100 := by assumption) : Pure Try.prog 21 [.sl (l.map Trp.cs)] (.bool (twiceS l)) := by
  have w1 : IntKind.i64.wrap (0 + 1) = 1 := wr64 (by omega) (by omega)
  have w2 : IntKind.i64.wrap (1 + 1) = 2 := wr64 (by omega) (by omega)
  have w3 : IntKind.i64.wrap 1 = 1 := wr64 (by omega) (by omega)
  have w4 : IntKind.i64.wrap 2 = 2 := wr64 (by omega) (by omega)
  refine pureQ_of_aw (drawsT_ok mixed) Try.func21 rfl rfl rfl rfl rfl ?_
  simp [Try.f21]
  refine aw_loopKM (α := {x : Nat × (List (Int × Int) × List (Int × Int)) // x.1 ≤ l.length ∧ x.2.1 = (l.take x.1).map nmP ∧ x.2.2 = ((l.take x.1).filter isCm).map tmP ∧ twG (l.take x.1) (l.drop x.1) = twiceS l}) [3, 4, 9, 10] (fun x => [(11, i64 x.1.1), (3, .rf 0), (4, .rf 1)]) (fun x => [(0, .map (Kp x.1.2.1)), (1, .map (Kp x.1.2.2))]) 2 (fun x => l.length - x.1.1) ⟨(0, [], []), by simp, rfl, rfl, rfl⟩ (St.to_chk [] (by simp [Kp])) ?_
  rintro ⟨⟨i, N, T⟩, j1, j2, j3, j4⟩
  dsimp only at j1 j2 j3 j4 ⊢
  by_cases hi : i < l.length
  · obtain ⟨t, ht⟩ := getL_some hi
    have hw := wrI hi (by omega)
    have ht1 : l.take (i + 1) = l.take i ++ [t] := by rw [List.take_add_one, ht]; rfl
    rw [dropL_at ht, twG, clashT, ← j2, ← j3] at j4
    have hN : ∀ x, x = N ++ [nmP t] → x = (l.take (i + 1)).map nmP := fun x hx => by rw [hx, ht1, j2]; simp
    by_cases hn : nmP t ∈ N
    · have hres : twiceS l = true := by rw [← j4]; simp [hn]
      obtain ⟨j, f0, f1, f2⟩ := findK_some hn
      have f3 := (f2 0).1
      have f4 := (f2 0).2 (i64 2)
      simp only [Nat.zero_add, kV, nmP] at f1 f3 f4
      rw [hres]
      simp [ht, w1, w2, w3, w4]
      refine ⟨fun _ => ?_, hi⟩
      refine inc_region afInc [(0, .map ((Kp N).set j (.agg [i64 t.cl, i64 t.nm], i64 2)))] 8 (by rfl) (by kernel_rfl) (by rfl) ?_ ?_
      · intro ops post ho hp
        have o0 := congrArg (·[0]?) ho
        have o1 := congrArg (·[1]?) ho
        have o2 := congrArg (·[2]?) ho
        have o3 := congrArg (·[3]?) ho
        have o4 := congrArg (·[4]?) ho
        have o5 := congrArg (·[5]?) ho
        have o6 := congrArg (·[6]?) ho
        have o7 := congrArg (·[7]?) ho
        have d0 : look 15 post.env = none := by rw [hp]; rfl
        have d1 : look 16 post.env = none := by rw [hp]; rfl
        have d2 : look 17 post.env = none := by rw [hp]; rfl
        have d3 : look 18 post.env = none := by rw [hp]; rfl
        have d4 : look 19 post.env = none := by rw [hp]; rfl
        have d5 : look 20 post.env = none := by rw [hp]; rfl
        have d6 : look 21 post.env = none := by rw [hp]; rfl
        simp only [List.getElem?_cons_zero, List.getElem?_cons_succ] at o0 o1 o2 o3 o4 o5 o6 o7
        clear ho
        refine trT_node (a := 0) (r := [1]) (by rfl) ?_
        simp [allI, o0, o1, w1, w2, w3, w4, f1, f3, f4]
        refine ⟨?_, ?_⟩
        · refine trT_node (a := 1) (r := []) (by rfl) ?_
          simp [allI, o1, w1, w2, w3, w4, f1, f3, f4]
          refine trT_node (a := 2) (r := []) (by rfl) ?_
          simp [allI, o2, w1, w2, w3, w4, f1, f3, f4]
          refine trT_node (a := 3) (r := [5]) (by rfl) ?_
          simp [allI, o3, o5, w1, w2, w3, w4, f1, f3, f4]
          refine ⟨?_, ?_⟩
          · refine trT_node (a := 4) (r := [5]) (by rfl) ?_
            simp [allI, o4, o5, w1, w2, w3, w4, f1, f3, f4]
            refine ⟨?_, ?_⟩
            · refine trT_node (a := 5) (r := []) (by rfl) ?_
              simp [allI, o5, w1, w2, w3, w4, f1, f3, f4]
              refine trT_node (a := 6) (r := []) (by rfl) ?_
              simp [allI, o6, w1, w2, w3, w4, f1, f3, f4]
              refine trT_node (a := 7) (r := []) (by rfl) ?_
              simp [allI, o7, w1, w2, w3, w4, f1, f3, f4]
              exact trT_leaf (by rfl) (St.to_le ⟨fun t v h => by rw [hp] at h d0 d1 d2 d3 d4 d5 d6; exact (look_push d6 h (look_push d5 h (look_push d4 h (look_push d3 h (look_push d2 h (look_push d1 h (look_push d0 h h))))))), fun s o h => by rw [hp] at h; exact look_dup h, by rw [hp], by rw [hp]⟩)
            · refine trT_node (a := 4) (r := [6]) (by rfl) ?_
              simp [allI, o4, o6, w1, w2, w3, w4, f1, f3, f4]
              refine ⟨?_, ?_⟩
              · refine trT_node (a := 6) (r := []) (by rfl) ?_
                simp [allI, o6, w1, w2, w3, w4, f1, f3, f4]
                refine trT_node (a := 7) (r := []) (by rfl) ?_
                simp [allI, o7, w1, w2, w3, w4, f1, f3, f4]
                exact trT_leaf (by rfl) (St.to_le ⟨fun t v h => by rw [hp] at h d0 d1 d2 d3 d4 d5 d6; exact (look_push d6 h (look_push d4 h (look_push d5 h (look_push d3 h (look_push d2 h (look_push d1 h (look_push d0 h h))))))), fun s o h => by rw [hp] at h; exact look_dup h, by rw [hp], by rw [hp]⟩)
              · refine trT_node (a := 4) (r := []) (by rfl) ?_
                simp [allI, o4, w1, w2, w3, w4, f1, f3, f4]
                refine trT_node (a := 7) (r := []) (by rfl) ?_
                simp [allI, o7, w1, w2, w3, w4, f1, f3, f4]
                exact trT_leaf (by rfl) (St.to_le ⟨fun t v h => by rw [hp] at h d0 d1 d2 d3 d4 d5 d6; exact (look_push d4 h (look_push d6 h (look_push d5 h (look_push d3 h (look_push d2 h (look_push d1 h (look_push d0 h h))))))), fun s o h => by rw [hp] at h; exact look_dup h, by rw [hp], by rw [hp]⟩)
          · refine trT_node (a := 3) (r := [6]) (by rfl) ?_
            simp [allI, o3, o6, w1, w2, w3, w4, f1, f3, f4]
            refine ⟨?_, ?_⟩
            · refine trT_node (a := 4) (r := [6]) (by rfl) ?_
              simp [allI, o4, o6, w1, w2, w3, w4, f1, f3, f4]
              refine ⟨?_, ?_⟩
              · refine trT_node (a := 6) (r := []) (by rfl) ?_
                simp [allI, o6, w1, w2, w3, w4, f1, f3, f4]
                refine trT_node (a := 7) (r := []) (by rfl) ?_
                simp [allI, o7, w1, w2, w3, w4, f1, f3, f4]
                exact trT_leaf (by rfl) (St.to_le ⟨fun t v h => by rw [hp] at h d0 d1 d2 d3 d4 d5 d6; exact (look_push d6 h (look_push d4 h (look_push d3 h (look_push d5 h (look_push d2 h (look_push d1 h (look_push d0 h h))))))), fun s o h => by rw [hp] at h; exact look_dup h, by rw [hp], by rw [hp]⟩)
              · refine trT_node (a := 4) (r := []) (by rfl) ?_
                simp [allI, o4, w1, w2, w3, w4, f1, f3, f4]
                refine trT_node (a := 7) (r := []) (by rfl) ?_
                simp [allI, o7, w1, w2, w3, w4, f1, f3, f4]
                exact trT_leaf (by rfl) (St.to_le ⟨fun t v h => by rw [hp] at h d0 d1 d2 d3 d4 d5 d6; exact (look_push d4 h (look_push d6 h (look_push d3 h (look_push d5 h (look_push d2 h (look_push d1 h (look_push d0 h h))))))), fun s o h => by rw [hp] at h; exact look_dup h, by rw [hp], by rw [hp]⟩)
            · refine trT_node (a := 3) (r := []) (by rfl) ?_
              simp [allI, o3, w1, w2, w3, w4, f1, f3, f4]
              refine trT_node (a := 4) (r := []) (by rfl) ?_
              simp [allI, o4, w1, w2, w3, w4, f1, f3, f4]
              refine trT_node (a := 7) (r := []) (by rfl) ?_
              simp [allI, o7, w1, w2, w3, w4, f1, f3, f4]
              exact trT_leaf (by rfl) (St.to_le ⟨fun t v h => by rw [hp] at h d0 d1 d2 d3 d4 d5 d6; exact (look_push d4 h (look_push d3 h (look_push d6 h (look_push d5 h (look_push d2 h (look_push d1 h (look_push d0 h h))))))), fun s o h => by rw [hp] at h; exact look_dup h, by rw [hp], by rw [hp]⟩)
        · refine trT_node (a := 0) (r := [2]) (by rfl) ?_
          simp [allI, o0, o2, w1, w2, w3, w4, f1, f3, f4]
          refine ⟨?_, ?_⟩
          · refine trT_node (a := 2) (r := []) (by rfl) ?_
            simp [allI, o2, w1, w2, w3, w4, f1, f3, f4]
            refine trT_node (a := 3) (r := [5]) (by rfl) ?_
            simp [allI, o3, o5, w1, w2, w3, w4, f1, f3, f4]
            refine ⟨?_, ?_⟩
            · refine trT_node (a := 4) (r := [5]) (by rfl) ?_
              simp [allI, o4, o5, w1, w2, w3, w4, f1, f3, f4]
              refine ⟨?_, ?_⟩
              · refine trT_node (a := 5) (r := []) (by rfl) ?_
                simp [allI, o5, w1, w2, w3, w4, f1, f3, f4]
                refine trT_node (a := 6) (r := []) (by rfl) ?_
                simp [allI, o6, w1, w2, w3, w4, f1, f3, f4]
                refine trT_node (a := 7) (r := []) (by rfl) ?_
                simp [allI, o7, w1, w2, w3, w4, f1, f3, f4]
                exact trT_leaf (by rfl) (St.to_le ⟨fun t v h => by rw [hp] at h d0 d1 d2 d3 d4 d5 d6; exact (look_push d6 h (look_push d5 h (look_push d4 h (look_push d3 h (look_push d2 h (look_push d0 h (look_push d1 h h))))))), fun s o h => by rw [hp] at h; exact look_dup h, by rw [hp], by rw [hp]⟩)
              · refine trT_node (a := 4) (r := [6]) (by rfl) ?_
                simp [allI, o4, o6, w1, w2, w3, w4, f1, f3, f4]
                refine ⟨?_, ?_⟩
                · refine trT_node (a := 6) (r := []) (by rfl) ?_
                  simp [allI, o6, w1, w2, w3, w4, f1, f3, f4]
                  refine trT_node (a := 7) (r := []) (by rfl) ?_
                  simp [allI, o7, w1, w2, w3, w4, f1, f3, f4]
                  exact trT_leaf (by rfl) (St.to_le ⟨fun t v h => by rw [hp] at h d0 d1 d2 d3 d4 d5 d6; exact (look_push d6 h (look_push d4 h (look_push d5 h (look_push d3 h (look_push d2 h (look_push d0 h (look_push d1 h h))))))), fun s o h => by rw [hp] at h; exact look_dup h, by rw [hp], by rw [hp]⟩)
                · refine trT_node (a := 4) (r := []) (by rfl) ?_
                  simp [allI, o4, w1, w2, w3, w4, f1, f3, f4]
                  refine trT_node (a := 7) (r := []) (by rfl) ?_
                  simp [allI, o7, w1, w2, w3, w4, f1, f3, f4]
                  exact trT_leaf (by rfl) (St.to_le ⟨fun t v h => by rw [hp] at h d0 d1 d2 d3 d4 d5 d6; exact (look_push d4 h (look_push d6 h (look_push d5 h (look_push d3 h (look_push d2 h (look_push d0 h (look_push d1 h h))))))), fun s o h => by rw [hp] at h; exact look_dup h, by rw [hp], by rw [hp]⟩)
            · refine trT_node (a := 3) (r := [6]) (by rfl) ?_
              simp [allI, o3, o6, w1, w2, w3, w4, f1, f3, f4]
              refine ⟨?_, ?_⟩
              · refine trT_node (a := 4) (r := [6]) (by rfl) ?_
                simp [allI, o4, o6, w1, w2, w3, w4, f1, f3, f4]
                refine ⟨?_, ?_⟩
                · refine trT_node (a := 6) (r := []) (by rfl) ?_
                  simp [allI, o6, w1, w2, w3, w4, f1, f3, f4]
                  refine trT_node (a := 7) (r := []) (by rfl) ?_
                  simp [allI, o7, w1, w2, w3, w4, f1, f3, f4]
                  exact trT_leaf (by rfl) (St.to_le ⟨fun t v h => by rw [hp] at h d0 d1 d2 d3 d4 d5 d6; exact (look_push d6 h (look_push d4 h (look_push d3 h (look_push d5 h (look_push d2 h (look_push d0 h (look_push d1 h h))))))), fun s o h => by rw [hp] at h; exact look_dup h, by rw [hp], by rw [hp]⟩)
                · refine trT_node (a := 4) (r := []) (by rfl) ?_
                  simp [allI, o4, w1, w2, w3, w4, f1, f3, f4]
                  refine trT_node (a := 7) (r := []) (by rfl) ?_
                  simp [allI, o7, w1, w2, w3, w4, f1, f3, f4]
                  exact trT_leaf (by rfl) (St.to_le ⟨fun t v h => by rw [hp] at h d0 d1 d2 d3 d4 d5 d6; exact (look_push d4 h (look_push d6 h (look_push d3 h (look_push d5 h (look_push d2 h (look_push d0 h (look_push d1 h h))))))), fun s o h => by rw [hp] at h; exact look_dup h, by rw [hp], by rw [hp]⟩)
              · refine trT_node (a := 3) (r := []) (by rfl) ?_
                simp [allI, o3, w1, w2, w3, w4, f1, f3, f4]
                refine trT_node (a := 4) (r := []) (by rfl) ?_
                simp [allI, o4, w1, w2, w3, w4, f1, f3, f4]
                refine trT_node (a := 7) (r := []) (by rfl) ?_
                simp [allI, o7, w1, w2, w3, w4, f1, f3, f4]
                exact trT_leaf (by rfl) (St.to_le ⟨fun t v h => by rw [hp] at h d0 d1 d2 d3 d4 d5 d6; exact (look_push d4 h (look_push d3 h (look_push d6 h (look_push d5 h (look_push d2 h (look_push d0 h (look_push d1 h h))))))), fun s o h => by rw [hp] at h; exact look_dup h, by rw [hp], by rw [hp]⟩)
          · refine trT_node (a := 0) (r := []) (by rfl) ?_
            simp [allI, o0, w1, w2, w3, w4, f1, f3, f4]
            refine trT_node (a := 3) (r := [5]) (by rfl) ?_
            simp [allI, o3, o5, w1, w2, w3, w4, f1, f3, f4]
            refine ⟨?_, ?_⟩
            · refine trT_node (a := 4) (r := [5]) (by rfl) ?_
              simp [allI, o4, o5, w1, w2, w3, w4, f1, f3, f4]
              refine ⟨?_, ?_⟩
              · refine trT_node (a := 5) (r := []) (by rfl) ?_
                simp [allI, o5, w1, w2, w3, w4, f1, f3, f4]
                refine trT_node (a := 6) (r := []) (by rfl) ?_
                simp [allI, o6, w1, w2, w3, w4, f1, f3, f4]
                refine trT_node (a := 7) (r := []) (by rfl) ?_
                simp [allI, o7, w1, w2, w3, w4, f1, f3, f4]
                exact trT_leaf (by rfl) (St.to_le ⟨fun t v h => by rw [hp] at h d0 d1 d2 d3 d4 d5 d6; exact (look_push d6 h (look_push d5 h (look_push d4 h (look_push d3 h (look_push d0 h (look_push d2 h (look_push d1 h h))))))), fun s o h => by rw [hp] at h; exact look_dup h, by rw [hp], by rw [hp]⟩)
              · refine trT_node (a := 4) (r := [6]) (by rfl) ?_
                simp [allI, o4, o6, w1, w2, w3, w4, f1, f3, f4]
                refine ⟨?_, ?_⟩
                · refine trT_node (a := 6) (r := []) (by rfl) ?_
                  simp [allI, o6, w1, w2, w3, w4, f1, f3, f4]
                  refine trT_node (a := 7) (r := []) (by rfl) ?_
                  simp [allI, o7, w1, w2, w3, w4, f1, f3, f4]
                  exact trT_leaf (by rfl) (St.to_le ⟨fun t v h => by rw [hp] at h d0 d1 d2 d3 d4 d5 d6; exact (look_push d6 h (look_push d4 h (look_push d5 h (look_push d3 h (look_push d0 h (look_push d2 h (look_push d1 h h))))))), fun s o h => by rw [hp] at h; exact look_dup h, by rw [hp], by rw [hp]⟩)
                · refine trT_node (a := 4) (r := []) (by rfl) ?_
                  simp [allI, o4, w1, w2, w3, w4, f1, f3, f4]
                  refine trT_node (a := 7) (r := []) (by rfl) ?_
                  simp [allI, o7, w1, w2, w3, w4, f1, f3, f4]
                  exact trT_leaf (by rfl) (St.to_le ⟨fun t v h => by rw [hp] at h d0 d1 d2 d3 d4 d5 d6; exact (look_push d4 h (look_push d6 h (look_push d5 h (look_push d3 h (look_push d0 h (look_push d2 h (look_push d1 h h))))))), fun s o h => by rw [hp] at h; exact look_dup h, by rw [hp], by rw [hp]⟩)
            · refine trT_node (a := 3) (r := [6]) (by rfl) ?_
              simp [allI, o3, o6, w1, w2, w3, w4, f1, f3, f4]
              refine ⟨?_, ?_⟩
              · refine trT_node (a := 4) (r := [6]) (by rfl) ?_
                simp [allI, o4, o6, w1, w2, w3, w4, f1, f3, f4]
                refine ⟨?_, ?_⟩
                · refine trT_node (a := 6) (r := []) (by rfl) ?_
                  simp [allI, o6, w1, w2, w3, w4, f1, f3, f4]
                  refine trT_node (a := 7) (r := []) (by rfl) ?_
                  simp [allI, o7, w1, w2, w3, w4, f1, f3, f4]
                  exact trT_leaf (by rfl) (St.to_le ⟨fun t v h => by rw [hp] at h d0 d1 d2 d3 d4 d5 d6; exact (look_push d6 h (look_push d4 h (look_push d3 h (look_push d5 h (look_push d0 h (look_push d2 h (look_push d1 h h))))))), fun s o h => by rw [hp] at h; exact look_dup h, by rw [hp], by rw [hp]⟩)
                · refine trT_node (a := 4) (r := []) (by rfl) ?_
                  simp [allI, o4, w1, w2, w3, w4, f1, f3, f4]
                  refine trT_node (a := 7) (r := []) (by rfl) ?_
                  simp [allI, o7, w1, w2, w3, w4, f1, f3, f4]
                  exact trT_leaf (by rfl) (St.to_le ⟨fun t v h => by rw [hp] at h d0 d1 d2 d3 d4 d5 d6; exact (look_push d4 h (look_push d6 h (look_push d3 h (look_push d5 h (look_push d0 h (look_push d2 h (look_push d1 h h))))))), fun s o h => by rw [hp] at h; exact look_dup h, by rw [hp], by rw [hp]⟩)
              · refine trT_node (a := 3) (r := []) (by rfl) ?_
                simp [allI, o3, w1, w2, w3, w4, f1, f3, f4]
                refine trT_node (a := 4) (r := []) (by rfl) ?_
                simp [allI, o4, w1, w2, w3, w4, f1, f3, f4]
                refine trT_node (a := 7) (r := []) (by rfl) ?_
                simp [allI, o7, w1, w2, w3, w4, f1, f3, f4]
                exact trT_leaf (by rfl) (St.to_le ⟨fun t v h => by rw [hp] at h d0 d1 d2 d3 d4 d5 d6; exact (look_push d4 h (look_push d3 h (look_push d6 h (look_push d5 h (look_push d0 h (look_push d2 h (look_push d1 h h))))))), fun s o h => by rw [hp] at h; exact look_dup h, by rw [hp], by rw [hp]⟩)
      · rcases hc : isCm t with _ | _
        · have hc' := eq_false (of_decide_eq_false hc)
          simp [hc', w1, w2, w3, w4, f4]
        · have hc' := eq_true (of_decide_eq_true hc)
          by_cases hm : tmP t ∈ T
          · obtain ⟨k, g0, g1, g2⟩ := findK_some hm
            have g3 := (g2 0).1
            have g4 := (g2 0).2 (i64 2)
            simp only [Nat.zero_add, kV, tmP] at g1 g3 g4
            simp [hc', w1, w2, w3, w4, f4]
            refine inc_region afInc [(1, .map ((Kp T).set k (.agg [i64 t.tm, i64 t.ac], i64 2)))] 8 (by rfl) (by kernel_rfl) (by rfl) ?_ ?_
            · intro ops post ho hp
              have o0 := congrArg (·[0]?) ho
              have o1 := congrArg (·[1]?) ho
              have o2 := congrArg (·[2]?) ho
              have o3 := congrArg (·[3]?) ho
              have o4 := congrArg (·[4]?) ho
              have o5 := congrArg (·[5]?) ho
              have o6 := congrArg (·[6]?) ho
              have o7 := congrArg (·[7]?) ho
              have d0 : look 25 post.env = none := by rw [hp]; rfl
              have d1 : look 26 post.env = none := by rw [hp]; rfl
              have d2 : look 27 post.env = none := by rw [hp]; rfl
              have d3 : look 28 post.env = none := by rw [hp]; rfl
              have d4 : look 29 post.env = none := by rw [hp]; rfl
              have d5 : look 30 post.env = none := by rw [hp]; rfl
              have d6 : look 31 post.env = none := by rw [hp]; rfl
              simp only [List.getElem?_cons_zero, List.getElem?_cons_succ] at o0 o1 o2 o3 o4 o5 o6 o7
              clear ho
              refine trT_node (a := 0) (r := [1]) (by rfl) ?_
              simp [allI, o0, o1, w1, w2, w3, w4, g1, g3, g4]
              refine ⟨?_, ?_⟩
              · refine trT_node (a := 1) (r := []) (by rfl) ?_
                simp [allI, o1, w1, w2, w3, w4, g1, g3, g4]
                refine trT_node (a := 2) (r := []) (by rfl) ?_
                simp [allI, o2, w1, w2, w3, w4, g1, g3, g4]
                refine trT_node (a := 3) (r := [5]) (by rfl) ?_
                simp [allI, o3, o5, w1, w2, w3, w4, g1, g3, g4]
                refine ⟨?_, ?_⟩
                · refine trT_node (a := 4) (r := [5]) (by rfl) ?_
                  simp [allI, o4, o5, w1, w2, w3, w4, g1, g3, g4]
                  refine ⟨?_, ?_⟩
                  · refine trT_node (a := 5) (r := []) (by rfl) ?_
                    simp [allI, o5, w1, w2, w3, w4, g1, g3, g4]
                    refine trT_node (a := 6) (r := []) (by rfl) ?_
                    simp [allI, o6, w1, w2, w3, w4, g1, g3, g4]
                    refine trT_node (a := 7) (r := []) (by rfl) ?_
                    simp [allI, o7, w1, w2, w3, w4, g1, g3, g4]
                    exact trT_leaf (by rfl) (St.to_le ⟨fun t v h => by rw [hp] at h d0 d1 d2 d3 d4 d5 d6; exact (look_push d6 h (look_push d5 h (look_push d4 h (look_push d3 h (look_push d2 h (look_push d1 h (look_push d0 h h))))))), fun s o h => by rw [hp] at h; exact look_dup h, by rw [hp], by rw [hp]⟩)
                  · refine trT_node (a := 4) (r := [6]) (by rfl) ?_
                    simp [allI, o4, o6, w1, w2, w3, w4, g1, g3, g4]
                    refine ⟨?_, ?_⟩
                    · refine trT_node (a := 6) (r := []) (by rfl) ?_
                      simp [allI, o6, w1, w2, w3, w4, g1, g3, g4]
                      refine trT_node (a := 7) (r := []) (by rfl) ?_
                      simp [allI, o7, w1, w2, w3, w4, g1, g3, g4]
                      exact trT_leaf (by rfl) (St.to_le ⟨fun t v h => by rw [hp] at h d0 d1 d2 d3 d4 d5 d6; exact (look_push d6 h (look_push d4 h (look_push d5 h (look_push d3 h (look_push d2 h (look_push d1 h (look_push d0 h h))))))), fun s o h => by rw [hp] at h; exact look_dup h, by rw [hp], by rw [hp]⟩)
                    · refine trT_node (a := 4) (r := []) (by rfl) ?_
                      simp [allI, o4, w1, w2, w3, w4, g1, g3, g4]
                      refine trT_node (a := 7) (r := []) (by rfl) ?_
                      simp [allI, o7, w1, w2, w3, w4, g1, g3, g4]
                      exact trT_leaf (by rfl) (St.to_le ⟨fun t v h => by rw [hp] at h d0 d1 d2 d3 d4 d5 d6; exact (look_push d4 h (look_push d6 h (look_push d5 h (look_push d3 h (look_push d2 h (look_push d1 h (look_push d0 h h))))))), fun s o h => by rw [hp] at h; exact look_dup h, by rw [hp], by rw [hp]⟩)
                · refine trT_node (a := 3) (r := [6]) (by rfl) ?_
                  simp [allI, o3, o6, w1, w2, w3, w4, g1, g3, g4]
                  refine ⟨?_, ?_⟩
                  · refine trT_node (a := 4) (r := [6]) (by rfl) ?_
                    simp [allI, o4, o6, w1, w2, w3, w4, g1, g3, g4]
                    refine ⟨?_, ?_⟩
                    · refine trT_node (a := 6) (r := []) (by rfl) ?_
                      simp [allI, o6, w1, w2, w3, w4, g1, g3, g4]
                      refine trT_node (a := 7) (r := []) (by rfl) ?_
                      simp [allI, o7, w1, w2, w3, w4, g1, g3, g4]
                      exact trT_leaf (by rfl) (St.to_le ⟨fun t v h => by rw [hp] at h d0 d1 d2 d3 d4 d5 d6; exact (look_push d6 h (look_push d4 h (look_push d3 h (look_push d5 h (look_push d2 h (look_push d1 h (look_push d0 h h))))))), fun s o h => by rw [hp] at h; exact look_dup h, by rw [hp], by rw [hp]⟩)
                    · refine trT_node (a := 4) (r := []) (by rfl) ?_
                      simp [allI, o4, w1, w2, w3, w4, g1, g3, g4]
                      refine trT_node (a := 7) (r := []) (by rfl) ?_
                      simp [allI, o7, w1, w2, w3, w4, g1, g3, g4]
                      exact trT_leaf (by rfl) (St.to_le ⟨fun t v h => by rw [hp] at h d0 d1 d2 d3 d4 d5 d6; exact (look_push d4 h (look_push d6 h (look_push d3 h (look_push d5 h (look_push d2 h (look_push d1 h (look_push d0 h h))))))), fun s o h => by rw [hp] at h; exact look_dup h, by rw [hp], by rw [hp]⟩)
                  · refine trT_node (a := 3) (r := []) (by rfl) ?_
                    simp [allI, o3, w1, w2, w3, w4, g1, g3, g4]
                    refine trT_node (a := 4) (r := []) (by rfl) ?_
                    simp [allI, o4, w1, w2, w3, w4, g1, g3, g4]
                    refine trT_node (a := 7) (r := []) (by rfl) ?_
                    simp [allI, o7, w1, w2, w3, w4, g1, g3, g4]
                    exact trT_leaf (by rfl) (St.to_le ⟨fun t v h => by rw [hp] at h d0 d1 d2 d3 d4 d5 d6; exact (look_push d4 h (look_push d3 h (look_push d6 h (look_push d5 h (look_push d2 h (look_push d1 h (look_push d0 h h))))))), fun s o h => by rw [hp] at h; exact look_dup h, by rw [hp], by rw [hp]⟩)
              · refine trT_node (a := 0) (r := [2]) (by rfl) ?_
                simp [allI, o0, o2, w1, w2, w3, w4, g1, g3, g4]
                refine ⟨?_, ?_⟩
                · refine trT_node (a := 2) (r := []) (by rfl) ?_
                  simp [allI, o2, w1, w2, w3, w4, g1, g3, g4]
                  refine trT_node (a := 3) (r := [5]) (by rfl) ?_
                  simp [allI, o3, o5, w1, w2, w3, w4, g1, g3, g4]
                  refine ⟨?_, ?_⟩
                  · refine trT_node (a := 4) (r := [5]) (by rfl) ?_
                    simp [allI, o4, o5, w1, w2, w3, w4, g1, g3, g4]
                    refine ⟨?_, ?_⟩
                    · refine trT_node (a := 5) (r := []) (by rfl) ?_
                      simp [allI, o5, w1, w2, w3, w4, g1, g3, g4]
                      refine trT_node (a := 6) (r := []) (by rfl) ?_
                      simp [allI, o6, w1, w2, w3, w4, g1, g3, g4]
                      refine trT_node (a := 7) (r := []) (by rfl) ?_
                      simp [allI, o7, w1, w2, w3, w4, g1, g3, g4]
                      exact trT_leaf (by rfl) (St.to_le ⟨fun t v h => by rw [hp] at h d0 d1 d2 d3 d4 d5 d6; exact (look_push d6 h (look_push d5 h (look_push d4 h (look_push d3 h (look_push d2 h (look_push d0 h (look_push d1 h h))))))), fun s o h => by rw [hp] at h; exact look_dup h, by rw [hp], by rw [hp]⟩)
                    · refine trT_node (a := 4) (r := [6]) (by rfl) ?_
                      simp [allI, o4, o6, w1, w2, w3, w4, g1, g3, g4]
                      refine ⟨?_, ?_⟩
                      · refine trT_node (a := 6) (r := []) (by rfl) ?_
                        simp [allI, o6, w1, w2, w3, w4, g1, g3, g4]
                        refine trT_node (a := 7) (r := []) (by rfl) ?_
                        simp [allI, o7, w1, w2, w3, w4, g1, g3, g4]
                        exact trT_leaf (by rfl) (St.to_le ⟨fun t v h => by rw [hp] at h d0 d1 d2 d3 d4 d5 d6; exact (look_push d6 h (look_push d4 h (look_push d5 h (look_push d3 h (look_push d2 h (look_push d0 h (look_push d1 h h))))))), fun s o h => by rw [hp] at h; exact look_dup h, by rw [hp], by rw [hp]⟩)
                      · refine trT_node (a := 4) (r := []) (by rfl) ?_
                        simp [allI, o4, w1, w2, w3, w4, g1, g3, g4]
                        refine trT_node (a := 7) (r := []) (by rfl) ?_
                        simp [allI, o7, w1, w2, w3, w4, g1, g3, g4]
                        exact trT_leaf (by rfl) (St.to_le ⟨fun t v h => by rw [hp] at h d0 d1 d2 d3 d4 d5 d6; exact (look_push d4 h (look_push d6 h (look_push d5 h (look_push d3 h (look_push d2 h (look_push d0 h (look_push d1 h h))))))), fun s o h => by rw [hp] at h; exact look_dup h, by rw [hp], by rw [hp]⟩)
                  · refine trT_node (a := 3) (r := [6]) (by rfl) ?_
                    simp [allI, o3, o6, w1, w2, w3, w4, g1, g3, g4]
                    refine ⟨?_, ?_⟩
                    · refine trT_node (a := 4) (r := [6]) (by rfl) ?_
                      simp [allI, o4, o6, w1, w2, w3, w4, g1, g3, g4]
                      refine ⟨?_, ?_⟩
                      · refine trT_node (a := 6) (r := []) (by rfl) ?_
                        simp [allI, o6, w1, w2, w3, w4, g1, g3, g4]
                        refine trT_node (a := 7) (r := []) (by rfl) ?_
                        simp [allI, o7, w1, w2, w3, w4, g1, g3, g4]
                        exact trT_leaf (by rfl) (St.to_le ⟨fun t v h => by rw [hp] at h d0 d1 d2 d3 d4 d5 d6; exact (look_push d6 h (look_push d4 h (look_push d3 h (look_push d5 h (look_push d2 h (look_push d0 h (look_push d1 h h))))))), fun s o h => by rw [hp] at h; exact look_dup h, by rw [hp], by rw [hp]⟩)
                      · refine trT_node (a := 4) (r := []) (by rfl) ?_
                        simp [allI, o4, w1, w2, w3, w4, g1, g3, g4]
                        refine trT_node (a := 7) (r := []) (by rfl) ?_
                        simp [allI, o7, w1, w2, w3, w4, g1, g3, g4]
                        exact trT_leaf (by rfl) (St.to_le ⟨fun t v h => by rw [hp] at h d0 d1 d2 d3 d4 d5 d6; exact (look_push d4 h (look_push d6 h (look_push d3 h (look_push d5 h (look_push d2 h (look_push d0 h (look_push d1 h h))))))), fun s o h => by rw [hp] at h; exact look_dup h, by rw [hp], by rw [hp]⟩)
                    · refine trT_node (a := 3) (r := []) (by rfl) ?_
                      simp [allI, o3, w1, w2, w3, w4, g1, g3, g4]
                      refine trT_node (a := 4) (r := []) (by rfl) ?_
                      simp [allI, o4, w1, w2, w3, w4, g1, g3, g4]
                      refine trT_node (a := 7) (r := []) (by rfl) ?_
                      simp [allI, o7, w1, w2, w3, w4, g1, g3, g4]
                      exact trT_leaf (by rfl) (St.to_le ⟨fun t v h => by rw [hp] at h d0 d1 d2 d3 d4 d5 d6; exact (look_push d4 h (look_push d3 h (look_push d6 h (look_push d5 h (look_push d2 h (look_push d0 h (look_push d1 h h))))))), fun s o h => by rw [hp] at h; exact look_dup h, by rw [hp], by rw [hp]⟩)
                · refine trT_node (a := 0) (r := []) (by rfl) ?_
                  simp [allI, o0, w1, w2, w3, w4, g1, g3, g4]
                  refine trT_node (a := 3) (r := [5]) (by rfl) ?_
                  simp [allI, o3, o5, w1, w2, w3, w4, g1, g3, g4]
                  refine ⟨?_, ?_⟩
                  · refine trT_node (a := 4) (r := [5]) (by rfl) ?_
                    simp [allI, o4, o5, w1, w2, w3, w4, g1, g3, g4]
                    refine ⟨?_, ?_⟩
                    · refine trT_node (a := 5) (r := []) (by rfl) ?_
                      simp [allI, o5, w1, w2, w3, w4, g1, g3, g4]
                      refine trT_node (a := 6) (r := []) (by rfl) ?_
                      simp [allI, o6, w1, w2, w3, w4, g1, g3, g4]
                      refine trT_node (a := 7) (r := []) (by rfl) ?_
                      simp [allI, o7, w1, w2, w3, w4, g1, g3, g4]
                      exact trT_leaf (by rfl) (St.to_le ⟨fun t v h => by rw [hp] at h d0 d1 d2 d3 d4 d5 d6; exact (look_push d6 h (look_push d5 h (look_push d4 h (look_push d3 h (look_push d0 h (look_push d2 h (look_push d1 h h))))))), fun s o h => by rw [hp] at h; exact look_dup h, by rw [hp], by rw [hp]⟩)
                    · refine trT_node (a := 4) (r := [6]) (by rfl) ?_
                      simp [allI, o4, o6, w1, w2, w3, w4, g1, g3, g4]
                      refine ⟨?_, ?_⟩
                      · refine trT_node (a := 6) (r := []) (by rfl) ?_
                        simp [allI, o6, w1, w2, w3, w4, g1, g3, g4]
                        refine trT_node (a := 7) (r := []) (by rfl) ?_
                        simp [allI, o7, w1, w2, w3, w4, g1, g3, g4]
                        exact trT_leaf (by rfl) (St.to_le ⟨fun t v h => by rw [hp] at h d0 d1 d2 d3 d4 d5 d6; exact (look_push d6 h (look_push d4 h (look_push d5 h (look_push d3 h (look_push d0 h (look_push d2 h (look_push d1 h h))))))), fun s o h => by rw [hp] at h; exact look_dup h, by rw [hp], by rw [hp]⟩)
                      · refine trT_node (a := 4) (r := []) (by rfl) ?_
                        simp [allI, o4, w1, w2, w3, w4, g1, g3, g4]
                        refine trT_node (a := 7) (r := []) (by rfl) ?_
                        simp [allI, o7, w1, w2, w3, w4, g1, g3, g4]
                        exact trT_leaf (by rfl) (St.to_le ⟨fun t v h => by rw [hp] at h d0 d1 d2 d3 d4 d5 d6; exact (look_push d4 h (look_push d6 h (look_push d5 h (look_push d3 h (look_push d0 h (look_push d2 h (look_push d1 h h))))))), fun s o h => by rw [hp] at h; exact look_dup h, by rw [hp], by rw [hp]⟩)
                  · refine trT_node (a := 3) (r := [6]) (by rfl) ?_
                    simp [allI, o3, o6, w1, w2, w3, w4, g1, g3, g4]
                    refine ⟨?_, ?_⟩
                    · refine trT_node (a := 4) (r := [6]) (by rfl) ?_
                      simp [allI, o4, o6, w1, w2, w3, w4, g1, g3, g4]
                      refine ⟨?_, ?_⟩
                      · refine trT_node (a := 6) (r := []) (by rfl) ?_
                        simp [allI, o6, w1, w2, w3, w4, g1, g3, g4]
                        refine trT_node (a := 7) (r := []) (by rfl) ?_
                        simp [allI, o7, w1, w2, w3, w4, g1, g3, g4]
                        exact trT_leaf (by rfl) (St.to_le ⟨fun t v h => by rw [hp] at h d0 d1 d2 d3 d4 d5 d6; exact (look_push d6 h (look_push d4 h (look_push d3 h (look_push d5 h (look_push d0 h (look_push d2 h (look_push d1 h h))))))), fun s o h => by rw [hp] at h; exact look_dup h, by rw [hp], by rw [hp]⟩)
                      · refine trT_node (a := 4) (r := []) (by rfl) ?_
                        simp [allI, o4, w1, w2, w3, w4, g1, g3, g4]
                        refine trT_node (a := 7) (r := []) (by rfl) ?_
                        simp [allI, o7, w1, w2, w3, w4, g1, g3, g4]
                        exact trT_leaf (by rfl) (St.to_le ⟨fun t v h => by rw [hp] at h d0 d1 d2 d3 d4 d5 d6; exact (look_push d4 h (look_push d6 h (look_push d3 h (look_push d5 h (look_push d0 h (look_push d2 h (look_push d1 h h))))))), fun s o h => by rw [hp] at h; exact look_dup h, by rw [hp], by rw [hp]⟩)
                    · refine trT_node (a := 3) (r := []) (by rfl) ?_
                      simp [allI, o3, w1, w2, w3, w4, g1, g3, g4]
                      refine trT_node (a := 4) (r := []) (by rfl) ?_
                      simp [allI, o4, w1, w2, w3, w4, g1, g3, g4]
                      refine trT_node (a := 7) (r := []) (by rfl) ?_
                      simp [allI, o7, w1, w2, w3, w4, g1, g3, g4]
                      exact trT_leaf (by rfl) (St.to_le ⟨fun t v h => by rw [hp] at h d0 d1 d2 d3 d4 d5 d6; exact (look_push d4 h (look_push d3 h (look_push d6 h (look_push d5 h (look_push d0 h (look_push d2 h (look_push d1 h h))))))), fun s o h => by rw [hp] at h; exact look_dup h, by rw [hp], by rw [hp]⟩)
            · simp [w1, w2, w3, w4, f4, g3, g4]
          · have g1 := findK_none 0 hm
            have g2 := findK_push 0 hm
            have g3 := Kp_push T (tmP t)
            have g5 := findK_last (v := i64 0) 0 hm
            simp only [Nat.zero_add, kV, tmP] at g1 g2 g3 g5
            simp [hc', w1, w2, w3, w4, f4]
            refine inc_region afInc [(1, .map (Kp (T ++ [(t.tm, t.ac)])))] 8 (by rfl) (by kernel_rfl) (by rfl) ?_ ?_
            · intro ops post ho hp
              have o0 := congrArg (·[0]?) ho
              have o1 := congrArg (·[1]?) ho
              have o2 := congrArg (·[2]?) ho
              have o3 := congrArg (·[3]?) ho
              have o4 := congrArg (·[4]?) ho
              have o5 := congrArg (·[5]?) ho
              have o6 := congrArg (·[6]?) ho
              have o7 := congrArg (·[7]?) ho
              have d0 : look 25 post.env = none := by rw [hp]; rfl
              have d1 : look 26 post.env = none := by rw [hp]; rfl
              have d2 : look 27 post.env = none := by rw [hp]; rfl
              have d3 : look 28 post.env = none := by rw [hp]; rfl
              have d4 : look 29 post.env = none := by rw [hp]; rfl
              have d5 : look 30 post.env = none := by rw [hp]; rfl
              have d6 : look 31 post.env = none := by rw [hp]; rfl
              simp only [List.getElem?_cons_zero, List.getElem?_cons_succ] at o0 o1 o2 o3 o4 o5 o6 o7
              clear ho
              refine trT_node (a := 0) (r := [1]) (by rfl) ?_
              simp [allI, o0, o1, w1, w2, w3, w4, g1, g3, g5]
              refine ⟨?_, ?_⟩
              · refine trT_node (a := 1) (r := []) (by rfl) ?_
                simp [allI, o1, w1, w2, w3, w4, g1, g3, g5]
                refine trT_node (a := 2) (r := []) (by rfl) ?_
                simp [allI, o2, w1, w2, w3, w4, g1, g3, g5]
                refine trT_node (a := 3) (r := [5]) (by rfl) ?_
                simp [allI, o3, o5, w1, w2, w3, w4, g1, g3, g5]
                refine ⟨?_, ?_⟩
                · refine trT_node (a := 4) (r := [5]) (by rfl) ?_
                  simp [allI, o4, o5, w1, w2, w3, w4, g1, g3, g5]
                  refine ⟨?_, ?_⟩
                  · refine trT_node (a := 5) (r := []) (by rfl) ?_
                    simp [allI, o5, w1, w2, w3, w4, g1, g3, g5]
                    refine trT_node (a := 6) (r := []) (by rfl) ?_
                    simp [allI, o6, w1, w2, w3, w4, g1, g3, g5]
                    refine trT_node (a := 7) (r := []) (by rfl) ?_
                    simp [allI, o7, w1, w2, w3, w4, g1, g3, g5]
                    exact trT_leaf (by rfl) (St.to_le ⟨fun t v h => by rw [hp] at h d0 d1 d2 d3 d4 d5 d6; exact (look_push d6 h (look_push d5 h (look_push d4 h (look_push d3 h (look_push d2 h (look_push d1 h (look_push d0 h h))))))), fun s o h => by rw [hp] at h; exact look_dup h, by rw [hp], by rw [hp]⟩)
                  · refine trT_node (a := 4) (r := [6]) (by rfl) ?_
                    simp [allI, o4, o6, w1, w2, w3, w4, g1, g3, g5]
                    refine ⟨?_, ?_⟩
                    · refine trT_node (a := 6) (r := []) (by rfl) ?_
                      simp [allI, o6, w1, w2, w3, w4, g1, g3, g5]
                      refine trT_node (a := 7) (r := []) (by rfl) ?_
                      simp [allI, o7, w1, w2, w3, w4, g1, g3, g5]
                      exact trT_leaf (by rfl) (St.to_le ⟨fun t v h => by rw [hp] at h d0 d1 d2 d3 d4 d5 d6; exact (look_push d6 h (look_push d4 h (look_push d5 h (look_push d3 h (look_push d2 h (look_push d1 h (look_push d0 h h))))))), fun s o h => by rw [hp] at h; exact look_dup h, by rw [hp], by rw [hp]⟩)
                    · refine trT_node (a := 4) (r := []) (by rfl) ?_
                      simp [allI, o4, w1, w2, w3, w4, g1, g3, g5]
                      refine trT_node (a := 7) (r := []) (by rfl) ?_
                      simp [allI, o7, w1, w2, w3, w4, g1, g3, g5]
                      exact trT_leaf (by rfl) (St.to_le ⟨fun t v h => by rw [hp] at h d0 d1 d2 d3 d4 d5 d6; exact (look_push d4 h (look_push d6 h (look_push d5 h (look_push d3 h (look_push d2 h (look_push d1 h (look_push d0 h h))))))), fun s o h => by rw [hp] at h; exact look_dup h, by rw [hp], by rw [hp]⟩)
                · refine trT_node (a := 3) (r := [6]) (by rfl) ?_
                  simp [allI, o3, o6, w1, w2, w3, w4, g1, g3, g5]
                  refine ⟨?_, ?_⟩
                  · refine trT_node (a := 4) (r := [6]) (by rfl) ?_
                    simp [allI, o4, o6, w1, w2, w3, w4, g1, g3, g5]
                    refine ⟨?_, ?_⟩
                    · refine trT_node (a := 6) (r := []) (by rfl) ?_
                      simp [allI, o6, w1, w2, w3, w4, g1, g3, g5]
                      refine trT_node (a := 7) (r := []) (by rfl) ?_
                      simp [allI, o7, w1, w2, w3, w4, g1, g3, g5]
                      exact trT_leaf (by rfl) (St.to_le ⟨fun t v h => by rw [hp] at h d0 d1 d2 d3 d4 d5 d6; exact (look_push d6 h (look_push d4 h (look_push d3 h (look_push d5 h (look_push d2 h (look_push d1 h (look_push d0 h h))))))), fun s o h => by rw [hp] at h; exact look_dup h, by rw [hp], by rw [hp]⟩)
                    · refine trT_node (a := 4) (r := []) (by rfl) ?_
                      simp [allI, o4, w1, w2, w3, w4, g1, g3, g5]
                      refine trT_node (a := 7) (r := []) (by rfl) ?_
                      simp [allI, o7, w1, w2, w3, w4, g1, g3, g5]
                      exact trT_leaf (by rfl) (St.to_le ⟨fun t v h => by rw [hp] at h d0 d1 d2 d3 d4 d5 d6; exact (look_push d4 h (look_push d6 h (look_push d3 h (look_push d5 h (look_push d2 h (look_push d1 h (look_push d0 h h))))))), fun s o h => by rw [hp] at h; exact look_dup h, by rw [hp], by rw [hp]⟩)
                  · refine trT_node (a := 3) (r := []) (by rfl) ?_
                    simp [allI, o3, w1, w2, w3, w4, g1, g3, g5]
                    refine trT_node (a := 4) (r := []) (by rfl) ?_
                    simp [allI, o4, w1, w2, w3, w4, g1, g3, g5]
                    refine trT_node (a := 7) (r := []) (by rfl) ?_
                    simp [allI, o7, w1, w2, w3, w4, g1, g3, g5]
                    exact trT_leaf (by rfl) (St.to_le ⟨fun t v h => by rw [hp] at h d0 d1 d2 d3 d4 d5 d6; exact (look_push d4 h (look_push d3 h (look_push d6 h (look_push d5 h (look_push d2 h (look_push d1 h (look_push d0 h h))))))), fun s o h => by rw [hp] at h; exact look_dup h, by rw [hp], by rw [hp]⟩)
              · refine trT_node (a := 0) (r := [2]) (by rfl) ?_
                simp [allI, o0, o2, w1, w2, w3, w4, g1, g3, g5]
                refine ⟨?_, ?_⟩
                · refine trT_node (a := 2) (r := []) (by rfl) ?_
                  simp [allI, o2, w1, w2, w3, w4, g1, g3, g5]
                  refine trT_node (a := 3) (r := [5]) (by rfl) ?_
                  simp [allI, o3, o5, w1, w2, w3, w4, g1, g3, g5]
                  refine ⟨?_, ?_⟩
                  · refine trT_node (a := 4) (r := [5]) (by rfl) ?_
                    simp [allI, o4, o5, w1, w2, w3, w4, g1, g3, g5]
                    refine ⟨?_, ?_⟩
                    · refine trT_node (a := 5) (r := []) (by rfl) ?_
                      simp [allI, o5, w1, w2, w3, w4, g1, g3, g5]
                      refine trT_node (a := 6) (r := []) (by rfl) ?_
                      simp [allI, o6, w1, w2, w3, w4, g1, g3, g5]
                      refine trT_node (a := 7) (r := []) (by rfl) ?_
                      simp [allI, o7, w1, w2, w3, w4, g1, g3, g5]
                      exact trT_leaf (by rfl) (St.to_le ⟨fun t v h => by rw [hp] at h d0 d1 d2 d3 d4 d5 d6; exact (look_push d6 h (look_push d5 h (look_push d4 h (look_push d3 h (look_push d2 h (look_push d0 h (look_push d1 h h))))))), fun s o h => by rw [hp] at h; exact look_dup h, by rw [hp], by rw [hp]⟩)
                    · refine trT_node (a := 4) (r := [6]) (by rfl) ?_
                      simp [allI, o4, o6, w1, w2, w3, w4, g1, g3, g5]
                      refine ⟨?_, ?_⟩
                      · refine trT_node (a := 6) (r := []) (by rfl) ?_
                        simp [allI, o6, w1, w2, w3, w4, g1, g3, g5]
                        refine trT_node (a := 7) (r := []) (by rfl) ?_
                        simp [allI, o7, w1, w2, w3, w4, g1, g3, g5]
                        exact trT_leaf (by rfl) (St.to_le ⟨fun t v h => by rw [hp] at h d0 d1 d2 d3 d4 d5 d6; exact (look_push d6 h (look_push d4 h (look_push d5 h (look_push d3 h (look_push d2 h (look_push d0 h (look_push d1 h h))))))), fun s o h => by rw [hp] at h; exact look_dup h, by rw [hp], by rw [hp]⟩)
                      · refine trT_node (a := 4) (r := []) (by rfl) ?_
                        simp [allI, o4, w1, w2, w3, w4, g1, g3, g5]
                        refine trT_node (a := 7) (r := []) (by rfl) ?_
                        simp [allI, o7, w1, w2, w3, w4, g1, g3, g5]
                        exact trT_leaf (by rfl) (St.to_le ⟨fun t v h => by rw [hp] at h d0 d1 d2 d3 d4 d5 d6; exact (look_push d4 h (look_push d6 h (look_push d5 h (look_push d3 h (look_push d2 h (look_push d0 h (look_push d1 h h))))))), fun s o h => by rw [hp] at h; exact look_dup h, by rw [hp], by rw [hp]⟩)
                  · refine trT_node (a := 3) (r := [6]) (by rfl) ?_
                    simp [allI, o3, o6, w1, w2, w3, w4, g1, g3, g5]
                    refine ⟨?_, ?_⟩
                    · refine trT_node (a := 4) (r := [6]) (by rfl) ?_
                      simp [allI, o4, o6, w1, w2, w3, w4, g1, g3, g5]
                      refine ⟨?_, ?_⟩
                      · refine trT_node (a := 6) (r := []) (by rfl) ?_
                        simp [allI, o6, w1, w2, w3, w4, g1, g3, g5]
                        refine trT_node (a := 7) (r := []) (by rfl) ?_
                        simp [allI, o7, w1, w2, w3, w4, g1, g3, g5]
                        exact trT_leaf (by rfl) (St.to_le ⟨fun t v h => by rw [hp] at h d0 d1 d2 d3 d4 d5 d6; exact (look_push d6 h (look_push d4 h (look_push d3 h (look_push d5 h (look_push d2 h (look_push d0 h (look_push d1 h h))))))), fun s o h => by rw [hp] at h; exact look_dup h, by rw [hp], by rw [hp]⟩)
                      · refine trT_node (a := 4) (r := []) (by rfl) ?_
                        simp [allI, o4, w1, w2, w3, w4, g1, g3, g5]
                        refine trT_node (a := 7) (r := []) (by rfl) ?_
                        simp [allI, o7, w1, w2, w3, w4, g1, g3, g5]
                        exact trT_leaf (by rfl) (St.to_le ⟨fun t v h => by rw [hp] at h d0 d1 d2 d3 d4 d5 d6; exact (look_push d4 h (look_push d6 h (look_push d3 h (look_push d5 h (look_push d2 h (look_push d0 h (look_push d1 h h))))))), fun s o h => by rw [hp] at h; exact look_dup h, by rw [hp], by rw [hp]⟩)
                    · refine trT_node (a := 3) (r := []) (by rfl) ?_
                      simp [allI, o3, w1, w2, w3, w4, g1, g3, g5]
                      refine trT_node (a := 4) (r := []) (by rfl) ?_
                      simp [allI, o4, w1, w2, w3, w4, g1, g3, g5]
                      refine trT_node (a := 7) (r := []) (by rfl) ?_
                      simp [allI, o7, w1, w2, w3, w4, g1, g3, g5]
                      exact trT_leaf (by rfl) (St.to_le ⟨fun t v h => by rw [hp] at h d0 d1 d2 d3 d4 d5 d6; exact (look_push d4 h (look_push d3 h (look_push d6 h (look_push d5 h (look_push d2 h (look_push d0 h (look_push d1 h h))))))), fun s o h => by rw [hp] at h; exact look_dup h, by rw [hp], by rw [hp]⟩)
                · refine trT_node (a := 0) (r := []) (by rfl) ?_
                  simp [allI, o0, w1, w2, w3, w4, g1, g3, g5]
                  refine trT_node (a := 3) (r := [5]) (by rfl) ?_
                  simp [allI, o3, o5, w1, w2, w3, w4, g1, g3, g5]
                  refine ⟨?_, ?_⟩
                  · refine trT_node (a := 4) (r := [5]) (by rfl) ?_
                    simp [allI, o4, o5, w1, w2, w3, w4, g1, g3, g5]
                    refine ⟨?_, ?_⟩
                    · refine trT_node (a := 5) (r := []) (by rfl) ?_
                      simp [allI, o5, w1, w2, w3, w4, g1, g3, g5]
                      refine trT_node (a := 6) (r := []) (by rfl) ?_
                      simp [allI, o6, w1, w2, w3, w4, g1, g3, g5]
                      refine trT_node (a := 7) (r := []) (by rfl) ?_
                      simp [allI, o7, w1, w2, w3, w4, g1, g3, g5]
                      exact trT_leaf (by rfl) (St.to_le ⟨fun t v h => by rw [hp] at h d0 d1 d2 d3 d4 d5 d6; exact (look_push d6 h (look_push d5 h (look_push d4 h (look_push d3 h (look_push d0 h (look_push d2 h (look_push d1 h h))))))), fun s o h => by rw [hp] at h; exact look_dup h, by rw [hp], by rw [hp]⟩)
                    · refine trT_node (a := 4) (r := [6]) (by rfl) ?_
                      simp [allI, o4, o6, w1, w2, w3, w4, g1, g3, g5]
                      refine ⟨?_, ?_⟩
                      · refine trT_node (a := 6) (r := []) (by rfl) ?_
                        simp [allI, o6, w1, w2, w3, w4, g1, g3, g5]
                        refine trT_node (a := 7) (r := []) (by rfl) ?_
                        simp [allI, o7, w1, w2, w3, w4, g1, g3, g5]
                        exact trT_leaf (by rfl) (St.to_le ⟨fun t v h => by rw [hp] at h d0 d1 d2 d3 d4 d5 d6; exact (look_push d6 h (look_push d4 h (look_push d5 h (look_push d3 h (look_push d0 h (look_push d2 h (look_push d1 h h))))))), fun s o h => by rw [hp] at h; exact look_dup h, by rw [hp], by rw [hp]⟩)
                      · refine trT_node (a := 4) (r := []) (by rfl) ?_
                        simp [allI, o4, w1, w2, w3, w4, g1, g3, g5]
                        refine trT_node (a := 7) (r := []) (by rfl) ?_
                        simp [allI, o7, w1, w2, w3, w4, g1, g3, g5]
                        exact trT_leaf (by rfl) (St.to_le ⟨fun t v h => by rw [hp] at h d0 d1 d2 d3 d4 d5 d6; exact (look_push d4 h (look_push d6 h (look_push d5 h (look_push d3 h (look_push d0 h (look_push d2 h (look_push d1 h h))))))), fun s o h => by rw [hp] at h; exact look_dup h, by rw [hp], by rw [hp]⟩)
                  · refine trT_node (a := 3) (r := [6]) (by rfl) ?_
                    simp [allI, o3, o6, w1, w2, w3, w4, g1, g3, g5]
                    refine ⟨?_, ?_⟩
                    · refine trT_node (a := 4) (r := [6]) (by rfl) ?_
                      simp [allI, o4, o6, w1, w2, w3, w4, g1, g3, g5]
                      refine ⟨?_, ?_⟩
                      · refine trT_node (a := 6) (r := []) (by rfl) ?_
                        simp [allI, o6, w1, w2, w3, w4, g1, g3, g5]
                        refine trT_node (a := 7) (r := []) (by rfl) ?_
                        simp [allI, o7, w1, w2, w3, w4, g1, g3, g5]
                        exact trT_leaf (by rfl) (St.to_le ⟨fun t v h => by rw [hp] at h d0 d1 d2 d3 d4 d5 d6; exact (look_push d6 h (look_push d4 h (look_push d3 h (look_push d5 h (look_push d0 h (look_push d2 h (look_push d1 h h))))))), fun s o h => by rw [hp] at h; exact look_dup h, by rw [hp], by rw [hp]⟩)
                      · refine trT_node (a := 4) (r := []) (by rfl) ?_
                        simp [allI, o4, w1, w2, w3, w4, g1, g3, g5]
                        refine trT_node (a := 7) (r := []) (by rfl) ?_
                        simp [allI, o7, w1, w2, w3, w4, g1, g3, g5]
                        exact trT_leaf (by rfl) (St.to_le ⟨fun t v h => by rw [hp] at h d0 d1 d2 d3 d4 d5 d6; exact (look_push d4 h (look_push d6 h (look_push d3 h (look_push d5 h (look_push d0 h (look_push d2 h (look_push d1 h h))))))), fun s o h => by rw [hp] at h; exact look_dup h, by rw [hp], by rw [hp]⟩)
                    · refine trT_node (a := 3) (r := []) (by rfl) ?_
                      simp [allI, o3, w1, w2, w3, w4, g1, g3, g5]
                      refine trT_node (a := 4) (r := []) (by rfl) ?_
                      simp [allI, o4, w1, w2, w3, w4, g1, g3, g5]
                      refine trT_node (a := 7) (r := []) (by rfl) ?_
                      simp [allI, o7, w1, w2, w3, w4, g1, g3, g5]
                      exact trT_leaf (by rfl) (St.to_le ⟨fun t v h => by rw [hp] at h d0 d1 d2 d3 d4 d5 d6; exact (look_push d4 h (look_push d3 h (look_push d6 h (look_push d5 h (look_push d0 h (look_push d2 h (look_push d1 h h))))))), fun s o h => by rw [hp] at h; exact look_dup h, by rw [hp], by rw [hp]⟩)
            · simp [w1, w2, w3, w4, f4, g2]
    · have f1 := findK_none 0 hn
      have f2 := findK_push 0 hn
      have f3 := Kp_push N (nmP t)
      have f5 := findK_last (v := i64 0) 0 hn
      have hN2 := hN _ rfl
      simp only [Nat.zero_add, kV, nmP] at f1 f2 f3 f5
      simp [ht, w1, w2, w3, w4]
      refine ⟨fun _ => ?_, fun h => by omega⟩
      refine inc_region afInc [(0, .map (Kp (N ++ [(t.cl, t.nm)])))] 8 (by rfl) (by kernel_rfl) (by rfl) ?_ ?_
      · intro ops post ho hp
        have o0 := congrArg (·[0]?) ho
        have o1 := congrArg (·[1]?) ho
        have o2 := congrArg (·[2]?) ho
        have o3 := congrArg (·[3]?) ho
        have o4 := congrArg (·[4]?) ho
        have o5 := congrArg (·[5]?) ho
        have o6 := congrArg (·[6]?) ho
        have o7 := congrArg (·[7]?) ho
        have d0 : look 15 post.env = none := by rw [hp]; rfl
        have d1 : look 16 post.env = none := by rw [hp]; rfl
        have d2 : look 17 post.env = none := by rw [hp]; rfl
        have d3 : look 18 post.env = none := by rw [hp]; rfl
        have d4 : look 19 post.env = none := by rw [hp]; rfl
        have d5 : look 20 post.env = none := by rw [hp]; rfl
        have d6 : look 21 post.env = none := by rw [hp]; rfl
        simp only [List.getElem?_cons_zero, List.getElem?_cons_succ] at o0 o1 o2 o3 o4 o5 o6 o7
        clear ho
        refine trT_node (a := 0) (r := [1]) (by rfl) ?_
        simp [allI, o0, o1, w1, w2, w3, w4, f1, f3, f5]
        refine ⟨?_, ?_⟩
        · refine trT_node (a := 1) (r := []) (by rfl) ?_
          simp [allI, o1, w1, w2, w3, w4, f1, f3, f5]
          refine trT_node (a := 2) (r := []) (by rfl) ?_
          simp [allI, o2, w1, w2, w3, w4, f1, f3, f5]
          refine trT_node (a := 3) (r := [5]) (by rfl) ?_
          simp [allI, o3, o5, w1, w2, w3, w4, f1, f3, f5]
          refine ⟨?_, ?_⟩
          · refine trT_node (a := 4) (r := [5]) (by rfl) ?_
            simp [allI, o4, o5, w1, w2, w3, w4, f1, f3, f5]
            refine ⟨?_, ?_⟩
            · refine trT_node (a := 5) (r := []) (by rfl) ?_
              simp [allI, o5, w1, w2, w3, w4, f1, f3, f5]
              refine trT_node (a := 6) (r := []) (by rfl) ?_
              simp [allI, o6, w1, w2, w3, w4, f1, f3, f5]
              refine trT_node (a := 7) (r := []) (by rfl) ?_
              simp [allI, o7, w1, w2, w3, w4, f1, f3, f5]
              exact trT_leaf (by rfl) (St.to_le ⟨fun t v h => by rw [hp] at h d0 d1 d2 d3 d4 d5 d6; exact (look_push d6 h (look_push d5 h (look_push d4 h (look_push d3 h (look_push d2 h (look_push d1 h (look_push d0 h h))))))), fun s o h => by rw [hp] at h; exact look_dup h, by rw [hp], by rw [hp]⟩)
            · refine trT_node (a := 4) (r := [6]) (by rfl) ?_
              simp [allI, o4, o6, w1, w2, w3, w4, f1, f3, f5]
              refine ⟨?_, ?_⟩
              · refine trT_node (a := 6) (r := []) (by rfl) ?_
                simp [allI, o6, w1, w2, w3, w4, f1, f3, f5]
                refine trT_node (a := 7) (r := []) (by rfl) ?_
                simp [allI, o7, w1, w2, w3, w4, f1, f3, f5]
                exact trT_leaf (by rfl) (St.to_le ⟨fun t v h => by rw [hp] at h d0 d1 d2 d3 d4 d5 d6; exact (look_push d6 h (look_push d4 h (look_push d5 h (look_push d3 h (look_push d2 h (look_push d1 h (look_push d0 h h))))))), fun s o h => by rw [hp] at h; exact look_dup h, by rw [hp], by rw [hp]⟩)
              · refine trT_node (a := 4) (r := []) (by rfl) ?_
                simp [allI, o4, w1, w2, w3, w4, f1, f3, f5]
                refine trT_node (a := 7) (r := []) (by rfl) ?_
                simp [allI, o7, w1, w2, w3, w4, f1, f3, f5]
                exact trT_leaf (by rfl) (St.to_le ⟨fun t v h => by rw [hp] at h d0 d1 d2 d3 d4 d5 d6; exact (look_push d4 h (look_push d6 h (look_push d5 h (look_push d3 h (look_push d2 h (look_push d1 h (look_push d0 h h))))))), fun s o h => by rw [hp] at h; exact look_dup h, by rw [hp], by rw [hp]⟩)
          · refine trT_node (a := 3) (r := [6]) (by rfl) ?_
            simp [allI, o3, o6, w1, w2, w3, w4, f1, f3, f5]
            refine ⟨?_, ?_⟩
            · refine trT_node (a := 4) (r := [6]) (by rfl) ?_
              simp [allI, o4, o6, w1, w2, w3, w4, f1, f3, f5]
              refine ⟨?_, ?_⟩
              · refine trT_node (a := 6) (r := []) (by rfl) ?_
                simp [allI, o6, w1, w2, w3, w4, f1, f3, f5]
                refine trT_node (a := 7) (r := []) (by rfl) ?_
                simp [allI, o7, w1, w2, w3, w4, f1, f3, f5]
                exact trT_leaf (by rfl) (St.to_le ⟨fun t v h => by rw [hp] at h d0 d1 d2 d3 d4 d5 d6; exact (look_push d6 h (look_push d4 h (look_push d3 h (look_push d5 h (look_push d2 h (look_push d1 h (look_push d0 h h))))))), fun s o h => by rw [hp] at h; exact look_dup h, by rw [hp], by rw [hp]⟩)
              · refine trT_node (a := 4) (r := []) (by rfl) ?_
                simp [allI, o4, w1, w2, w3, w4, f1, f3, f5]
                refine trT_node (a := 7) (r := []) (by rfl) ?_
                simp [allI, o7, w1, w2, w3, w4, f1, f3, f5]
                exact trT_leaf (by rfl) (St.to_le ⟨fun t v h => by rw [hp] at h d0 d1 d2 d3 d4 d5 d6; exact (look_push d4 h (look_push d6 h (look_push d3 h (look_push d5 h (look_push d2 h (look_push d1 h (look_push d0 h h))))))), fun s o h => by rw [hp] at h; exact look_dup h, by rw [hp], by rw [hp]⟩)
            · refine trT_node (a := 3) (r := []) (by rfl) ?_
              simp [allI, o3, w1, w2, w3, w4, f1, f3, f5]
              refine trT_node (a := 4) (r := []) (by rfl) ?_
              simp [allI, o4, w1, w2, w3, w4, f1, f3, f5]
              refine trT_node (a := 7) (r := []) (by rfl) ?_
              simp [allI, o7, w1, w2, w3, w4, f1, f3, f5]
              exact trT_leaf (by rfl) (St.to_le ⟨fun t v h => by rw [hp] at h d0 d1 d2 d3 d4 d5 d6; exact (look_push d4 h (look_push d3 h (look_push d6 h (look_push d5 h (look_push d2 h (look_push d1 h (look_push d0 h h))))))), fun s o h => by rw [hp] at h; exact look_dup h, by rw [hp], by rw [hp]⟩)
        · refine trT_node (a := 0) (r := [2]) (by rfl) ?_
          simp [allI, o0, o2, w1, w2, w3, w4, f1, f3, f5]
          refine ⟨?_, ?_⟩
          · refine trT_node (a := 2) (r := []) (by rfl) ?_
            simp [allI, o2, w1, w2, w3, w4, f1, f3, f5]
            refine trT_node (a := 3) (r := [5]) (by rfl) ?_
            simp [allI, o3, o5, w1, w2, w3, w4, f1, f3, f5]
            refine ⟨?_, ?_⟩
            · refine trT_node (a := 4) (r := [5]) (by rfl) ?_
              simp [allI, o4, o5, w1, w2, w3, w4, f1, f3, f5]
              refine ⟨?_, ?_⟩
              · refine trT_node (a := 5) (r := []) (by rfl) ?_
                simp [allI, o5, w1, w2, w3, w4, f1, f3, f5]
                refine trT_node (a := 6) (r := []) (by rfl) ?_
                simp [allI, o6, w1, w2, w3, w4, f1, f3, f5]
                refine trT_node (a := 7) (r := []) (by rfl) ?_
                simp [allI, o7, w1, w2, w3, w4, f1, f3, f5]
                exact trT_leaf (by rfl) (St.to_le ⟨fun t v h => by rw [hp] at h d0 d1 d2 d3 d4 d5 d6; exact (look_push d6 h (look_push d5 h (look_push d4 h (look_push d3 h (look_push d2 h (look_push d0 h (look_push d1 h h))))))), fun s o h => by rw [hp] at h; exact look_dup h, by rw [hp], by rw [hp]⟩)
              · refine trT_node (a := 4) (r := [6]) (by rfl) ?_
                simp [allI, o4, o6, w1, w2, w3, w4, f1, f3, f5]
                refine ⟨?_, ?_⟩
                · refine trT_node (a := 6) (r := []) (by rfl) ?_
                  simp [allI, o6, w1, w2, w3, w4, f1, f3, f5]
                  refine trT_node (a := 7) (r := []) (by rfl) ?_
                  simp [allI, o7, w1, w2, w3, w4, f1, f3, f5]
                  exact trT_leaf (by rfl) (St.to_le ⟨fun t v h => by rw [hp] at h d0 d1 d2 d3 d4 d5 d6; exact (look_push d6 h (look_push d4 h (look_push d5 h (look_push d3 h (look_push d2 h (look_push d0 h (look_push d1 h h))))))), fun s o h => by rw [hp] at h; exact look_dup h, by rw [hp], by rw [hp]⟩)
                · refine trT_node (a := 4) (r := []) (by rfl) ?_
                  simp [allI, o4, w1, w2, w3, w4, f1, f3, f5]
                  refine trT_node (a := 7) (r := []) (by rfl) ?_
                  simp [allI, o7, w1, w2, w3, w4, f1, f3, f5]
                  exact trT_leaf (by rfl) (St.to_le ⟨fun t v h => by rw [hp] at h d0 d1 d2 d3 d4 d5 d6; exact (look_push d4 h (look_push d6 h (look_push d5 h (look_push d3 h (look_push d2 h (look_push d0 h (look_push d1 h h))))))), fun s o h => by rw [hp] at h; exact look_dup h, by rw [hp], by rw [hp]⟩)
            · refine trT_node (a := 3) (r := [6]) (by rfl) ?_
              simp [allI, o3, o6, w1, w2, w3, w4, f1, f3, f5]
              refine ⟨?_, ?_⟩
              · refine trT_node (a := 4) (r := [6]) (by rfl) ?_
                simp [allI, o4, o6, w1, w2, w3, w4, f1, f3, f5]
                refine ⟨?_, ?_⟩
                · refine trT_node (a := 6) (r := []) (by rfl) ?_
                  simp [allI, o6, w1, w2, w3, w4, f1, f3, f5]
                  refine trT_node (a := 7) (r := []) (by rfl) ?_
                  simp [allI, o7, w1, w2, w3, w4, f1, f3, f5]
                  exact trT_leaf (by rfl) (St.to_le ⟨fun t v h => by rw [hp] at h d0 d1 d2 d3 d4 d5 d6; exact (look_push d6 h (look_push d4 h (look_push d3 h (look_push d5 h (look_push d2 h (look_push d0 h (look_push d1 h h))))))), fun s o h => by rw [hp] at h; exact look_dup h, by rw [hp], by rw [hp]⟩)
                · refine trT_node (a := 4) (r := []) (by rfl) ?_
                  simp [allI, o4, w1, w2, w3, w4, f1, f3, f5]
                  refine trT_node (a := 7) (r := []) (by rfl) ?_
                  simp [allI, o7, w1, w2, w3, w4, f1, f3, f5]
                  exact trT_leaf (by rfl) (St.to_le ⟨fun t v h => by rw [hp] at h d0 d1 d2 d3 d4 d5 d6; exact (look_push d4 h (look_push d6 h (look_push d3 h (look_push d5 h (look_push d2 h (look_push d0 h (look_push d1 h h))))))), fun s o h => by rw [hp] at h; exact look_dup h, by rw [hp], by rw [hp]⟩)
              · refine trT_node (a := 3) (r := []) (by rfl) ?_
                simp [allI, o3, w1, w2, w3, w4, f1, f3, f5]
                refine trT_node (a := 4) (r := []) (by rfl) ?_
                simp [allI, o4, w1, w2, w3, w4, f1, f3, f5]
                refine trT_node (a := 7) (r := []) (by rfl) ?_
                simp [allI, o7, w1, w2, w3, w4, f1, f3, f5]
                exact trT_leaf (by rfl) (St.to_le ⟨fun t v h => by rw [hp] at h d0 d1 d2 d3 d4 d5 d6; exact (look_push d4 h (look_push d3 h (look_push d6 h (look_push d5 h (look_push d2 h (look_push d0 h (look_push d1 h h))))))), fun s o h => by rw [hp] at h; exact look_dup h, by rw [hp], by rw [hp]⟩)
          · refine trT_node (a := 0) (r := []) (by rfl) ?_
            simp [allI, o0, w1, w2, w3, w4, f1, f3, f5]
            refine trT_node (a := 3) (r := [5]) (by rfl) ?_
            simp [allI, o3, o5, w1, w2, w3, w4, f1, f3, f5]
            refine ⟨?_, ?_⟩
            · refine trT_node (a := 4) (r := [5]) (by rfl) ?_
              simp [allI, o4, o5, w1, w2, w3, w4, f1, f3, f5]
              refine ⟨?_, ?_⟩
              · refine trT_node (a := 5) (r := []) (by rfl) ?_
                simp [allI, o5, w1, w2, w3, w4, f1, f3, f5]
                refine trT_node (a := 6) (r := []) (by rfl) ?_
                simp [allI, o6, w1, w2, w3, w4, f1, f3, f5]
                refine trT_node (a := 7) (r := []) (by rfl) ?_
                simp [allI, o7, w1, w2, w3, w4, f1, f3, f5]
                exact trT_leaf (by rfl) (St.to_le ⟨fun t v h => by rw [hp] at h d0 d1 d2 d3 d4 d5 d6; exact (look_push d6 h (look_push d5 h (look_push d4 h (look_push d3 h (look_push d0 h (look_push d2 h (look_push d1 h h))))))), fun s o h => by rw [hp] at h; exact look_dup h, by rw [hp], by rw [hp]⟩)
              · refine trT_node (a := 4) (r := [6]) (by rfl) ?_
                simp [allI, o4, o6, w1, w2, w3, w4, f1, f3, f5]
                refine ⟨?_, ?_⟩
                · refine trT_node (a := 6) (r := []) (by rfl) ?_
                  simp [allI, o6, w1, w2, w3, w4, f1, f3, f5]
                  refine trT_node (a := 7) (r := []) (by rfl) ?_
                  simp [allI, o7, w1, w2, w3, w4, f1, f3, f5]
                  exact trT_leaf (by rfl) (St.to_le ⟨fun t v h => by rw [hp] at h d0 d1 d2 d3 d4 d5 d6; exact (look_push d6 h (look_push d4 h (look_push d5 h (look_push d3 h (look_push d0 h (look_push d2 h (look_push d1 h h))))))), fun s o h => by rw [hp] at h; exact look_dup h, by rw [hp], by rw [hp]⟩)
                · refine trT_node (a := 4) (r := []) (by rfl) ?_
                  simp [allI, o4, w1, w2, w3, w4, f1, f3, f5]
                  refine trT_node (a := 7) (r := []) (by rfl) ?_
                  simp [allI, o7, w1, w2, w3, w4, f1, f3, f5]
                  exact trT_leaf (by rfl) (St.to_le ⟨fun t v h => by rw [hp] at h d0 d1 d2 d3 d4 d5 d6; exact (look_push d4 h (look_push d6 h (look_push d5 h (look_push d3 h (look_push d0 h (look_push d2 h (look_push d1 h h))))))), fun s o h => by rw [hp] at h; exact look_dup h, by rw [hp], by rw [hp]⟩)
            · refine trT_node (a := 3) (r := [6]) (by rfl) ?_
              simp [allI, o3, o6, w1, w2, w3, w4, f1, f3, f5]
              refine ⟨?_, ?_⟩
              · refine trT_node (a := 4) (r := [6]) (by rfl) ?_
                simp [allI, o4, o6, w1, w2, w3, w4, f1, f3, f5]
                refine ⟨?_, ?_⟩
                · refine trT_node (a := 6) (r := []) (by rfl) ?_
                  simp [allI, o6, w1, w2, w3, w4, f1, f3, f5]
                  refine trT_node (a := 7) (r := []) (by rfl) ?_
                  simp [allI, o7, w1, w2, w3, w4, f1, f3, f5]
                  exact trT_leaf (by rfl) (St.to_le ⟨fun t v h => by rw [hp] at h d0 d1 d2 d3 d4 d5 d6; exact (look_push d6 h (look_push d4 h (look_push d3 h (look_push d5 h (look_push d0 h (look_push d2 h (look_push d1 h h))))))), fun s o h => by rw [hp] at h; exact look_dup h, by rw [hp], by rw [hp]⟩)
                · refine trT_node (a := 4) (r := []) (by rfl) ?_
                  simp [allI, o4, w1, w2, w3, w4, f1, f3, f5]
                  refine trT_node (a := 7) (r := []) (by rfl) ?_
                  simp [allI, o7, w1, w2, w3, w4, f1, f3, f5]
                  exact trT_leaf (by rfl) (St.to_le ⟨fun t v h => by rw [hp] at h d0 d1 d2 d3 d4 d5 d6; exact (look_push d4 h (look_push d6 h (look_push d3 h (look_push d5 h (look_push d0 h (look_push d2 h (look_push d1 h h))))))), fun s o h => by rw [hp] at h; exact look_dup h, by rw [hp], by rw [hp]⟩)
              · refine trT_node (a := 3) (r := []) (by rfl) ?_
                simp [allI, o3, w1, w2, w3, w4, f1, f3, f5]
                refine trT_node (a := 4) (r := []) (by rfl) ?_
                simp [allI, o4, w1, w2, w3, w4, f1, f3, f5]
                refine trT_node (a := 7) (r := []) (by rfl) ?_
                simp [allI, o7, w1, w2, w3, w4, f1, f3, f5]
                exact trT_leaf (by rfl) (St.to_le ⟨fun t v h => by rw [hp] at h d0 d1 d2 d3 d4 d5 d6; exact (look_push d4 h (look_push d3 h (look_push d6 h (look_push d5 h (look_push d0 h (look_push d2 h (look_push d1 h h))))))), fun s o h => by rw [hp] at h; exact look_dup h, by rw [hp], by rw [hp]⟩)
      · rcases hc : isCm t with _ | _
        · have hc' := eq_false (of_decide_eq_false hc)
          have hT : T = ((l.take (i + 1)).filter isCm).map tmP := by rw [j3, ht1, List.filter_append]; simp [hc]
          have hj : twG (l.take (i + 1)) (l.drop (i + 1)) = twiceS l := by rw [← j4, ht1]; simp [hn, hc]
          by_cases hm : tmP t ∈ T
          · obtain ⟨k, g0, g1, g2⟩ := findK_some hm
            have g3 := (g2 0).1
            simp only [Nat.zero_add, kV, tmP] at g3
            simp [hc', w1, w2, w3, w4, f2, g3]
            exact Exists.intro (i + 1) (And.intro (by omega) (Exists.intro (N ++ [nmP t]) (Exists.intro T (And.intro ⟨by omega, by simpa using hN2, hT, hj⟩ (St.to_chk [] (by simp [hw, nmP]))))))
          · have g1 := findK_none 0 hm
            simp only [Nat.zero_add, kV, tmP] at g1
            simp [hc', w1, w2, w3, w4, f2, g1]
            exact Exists.intro (i + 1) (And.intro (by omega) (Exists.intro (N ++ [nmP t]) (Exists.intro T (And.intro ⟨by omega, by simpa using hN2, hT, hj⟩ (St.to_chk [] (by simp [hw, nmP]))))))
        · have hc' := eq_true (of_decide_eq_true hc)
          by_cases hm : tmP t ∈ T
          · obtain ⟨k, g0, g1, g2⟩ := findK_some hm
            have g3 := (g2 0).1
            have g4 := (g2 0).2 (i64 2)
            simp only [Nat.zero_add, kV, tmP] at g1 g3 g4
            have hres : twiceS l = true := by rw [← j4]; simp [hn, hc, hm]
            rw [hres]
            simp [hc', w1, w2, w3, w4, f2]
            refine inc_region afInc [(1, .map ((Kp T).set k (.agg [i64 t.tm, i64 t.ac], i64 2)))] 8 (by rfl) (by kernel_rfl) (by rfl) ?_ ?_
            · intro ops post ho hp
              have o0 := congrArg (·[0]?) ho
              have o1 := congrArg (·[1]?) ho
              have o2 := congrArg (·[2]?) ho
              have o3 := congrArg (·[3]?) ho
              have o4 := congrArg (·[4]?) ho
              have o5 := congrArg (·[5]?) ho
              have o6 := congrArg (·[6]?) ho
              have o7 := congrArg (·[7]?) ho
              have d0 : look 25 post.env = none := by rw [hp]; rfl
              have d1 : look 26 post.env = none := by rw [hp]; rfl
              have d2 : look 27 post.env = none := by rw [hp]; rfl
              have d3 : look 28 post.env = none := by rw [hp]; rfl
              have d4 : look 29 post.env = none := by rw [hp]; rfl
              have d5 : look 30 post.env = none := by rw [hp]; rfl
              have d6 : look 31 post.env = none := by rw [hp]; rfl
              simp only [List.getElem?_cons_zero, List.getElem?_cons_succ] at o0 o1 o2 o3 o4 o5 o6 o7
              clear ho
              refine trT_node (a := 0) (r := [1]) (by rfl) ?_
              simp [allI, o0, o1, w1, w2, w3, w4, g1, g3, g4]
              refine ⟨?_, ?_⟩
              · refine trT_node (a := 1) (r := []) (by rfl) ?_
                simp [allI, o1, w1, w2, w3, w4, g1, g3, g4]
                refine trT_node (a := 2) (r := []) (by rfl) ?_
                simp [allI, o2, w1, w2, w3, w4, g1, g3, g4]
                refine trT_node (a := 3) (r := [5]) (by rfl) ?_
                simp [allI, o3, o5, w1, w2, w3, w4, g1, g3, g4]
                refine ⟨?_, ?_⟩
                · refine trT_node (a := 4) (r := [5]) (by rfl) ?_
                  simp [allI, o4, o5, w1, w2, w3, w4, g1, g3, g4]
                  refine ⟨?_, ?_⟩
                  · refine trT_node (a := 5) (r := []) (by rfl) ?_
                    simp [allI, o5, w1, w2, w3, w4, g1, g3, g4]
                    refine trT_node (a := 6) (r := []) (by rfl) ?_
                    simp [allI, o6, w1, w2, w3, w4, g1, g3, g4]
                    refine trT_node (a := 7) (r := []) (by rfl) ?_
                    simp [allI, o7, w1, w2, w3, w4, g1, g3, g4]
                    exact trT_leaf (by rfl) (St.to_le ⟨fun t v h => by rw [hp] at h d0 d1 d2 d3 d4 d5 d6; exact (look_push d6 h (look_push d5 h (look_push d4 h (look_push d3 h (look_push d2 h (look_push d1 h (look_push d0 h h))))))), fun s o h => by rw [hp] at h; exact look_dup h, by rw [hp], by rw [hp]⟩)
                  · refine trT_node (a := 4) (r := [6]) (by rfl) ?_
                    simp [allI, o4, o6, w1, w2, w3, w4, g1, g3, g4]
                    refine ⟨?_, ?_⟩
                    · refine trT_node (a := 6) (r := []) (by rfl) ?_
                      simp [allI, o6, w1, w2, w3, w4, g1, g3, g4]
                      refine trT_node (a := 7) (r := []) (by rfl) ?_
                      simp [allI, o7, w1, w2, w3, w4, g1, g3, g4]
                      exact trT_leaf (by rfl) (St.to_le ⟨fun t v h => by rw [hp] at h d0 d1 d2 d3 d4 d5 d6; exact (look_push d6 h (look_push d4 h (look_push d5 h (look_push d3 h (look_push d2 h (look_push d1 h (look_push d0 h h))))))), fun s o h => by rw [hp] at h; exact look_dup h, by rw [hp], by rw [hp]⟩)
                    · refine trT_node (a := 4) (r := []) (by rfl) ?_
                      simp [allI, o4, w1, w2, w3, w4, g1, g3, g4]
                      refine trT_node (a := 7) (r := []) (by rfl) ?_
                      simp [allI, o7, w1, w2, w3, w4, g1, g3, g4]
                      exact trT_leaf (by rfl) (St.to_le ⟨fun t v h => by rw [hp] at h d0 d1 d2 d3 d4 d5 d6; exact (look_push d4 h (look_push d6 h (look_push d5 h (look_push d3 h (look_push d2 h (look_push d1 h (look_push d0 h h))))))), fun s o h => by rw [hp] at h; exact look_dup h, by rw [hp], by rw [hp]⟩)
                · refine trT_node (a := 3) (r := [6]) (by rfl) ?_
                  simp [allI, o3, o6, w1, w2, w3, w4, g1, g3, g4]
                  refine ⟨?_, ?_⟩
                  · refine trT_node (a := 4) (r := [6]) (by rfl) ?_
                    simp [allI, o4, o6, w1, w2, w3, w4, g1, g3, g4]
                    refine ⟨?_, ?_⟩
                    · refine trT_node (a := 6) (r := []) (by rfl) ?_
                      simp [allI, o6, w1, w2, w3, w4, g1, g3, g4]
                      refine trT_node (a := 7) (r := []) (by rfl) ?_
                      simp [allI, o7, w1, w2, w3, w4, g1, g3, g4]
                      exact trT_leaf (by rfl) (St.to_le ⟨fun t v h => by rw [hp] at h d0 d1 d2 d3 d4 d5 d6; exact (look_push d6 h (look_push d4 h (look_push d3 h (look_push d5 h (look_push d2 h (look_push d1 h (look_push d0 h h))))))), fun s o h => by rw [hp] at h; exact look_dup h, by rw [hp], by rw [hp]⟩)
                    · refine trT_node (a := 4) (r := []) (by rfl) ?_
                      simp [allI, o4, w1, w2, w3, w4, g1, g3, g4]
                      refine trT_node (a := 7) (r := []) (by rfl) ?_
                      simp [allI, o7, w1, w2, w3, w4, g1, g3, g4]
                      exact trT_leaf (by rfl) (St.to_le ⟨fun t v h => by rw [hp] at h d0 d1 d2 d3 d4 d5 d6; exact (look_push d4 h (look_push d6 h (look_push d3 h (look_push d5 h (look_push d2 h (look_push d1 h (look_push d0 h h))))))), fun s o h => by rw [hp] at h; exact look_dup h, by rw [hp], by rw [hp]⟩)
                  · refine trT_node (a := 3) (r := []) (by rfl) ?_
                    simp [allI, o3, w1, w2, w3, w4, g1, g3, g4]
                    refine trT_node (a := 4) (r := []) (by rfl) ?_
                    simp [allI, o4, w1, w2, w3, w4, g1, g3, g4]
                    refine trT_node (a := 7) (r := []) (by rfl) ?_
                    simp [allI, o7, w1, w2, w3, w4, g1, g3, g4]
                    exact trT_leaf (by rfl) (St.to_le ⟨fun t v h => by rw [hp] at h d0 d1 d2 d3 d4 d5 d6; exact (look_push d4 h (look_push d3 h (look_push d6 h (look_push d5 h (look_push d2 h (look_push d1 h (look_push d0 h h))))))), fun s o h => by rw [hp] at h; exact look_dup h, by rw [hp], by rw [hp]⟩)
              · refine trT_node (a := 0) (r := [2]) (by rfl) ?_
                simp [allI, o0, o2, w1, w2, w3, w4, g1, g3, g4]
                refine ⟨?_, ?_⟩
                · refine trT_node (a := 2) (r := []) (by rfl) ?_
                  simp [allI, o2, w1, w2, w3, w4, g1, g3, g4]
                  refine trT_node (a := 3) (r := [5]) (by rfl) ?_
                  simp [allI, o3, o5, w1, w2, w3, w4, g1, g3, g4]
                  refine ⟨?_, ?_⟩
                  · refine trT_node (a := 4) (r := [5]) (by rfl) ?_
                    simp [allI, o4, o5, w1, w2, w3, w4, g1, g3, g4]
                    refine ⟨?_, ?_⟩
                    · refine trT_node (a := 5) (r := []) (by rfl) ?_
                      simp [allI, o5, w1, w2, w3, w4, g1, g3, g4]
                      refine trT_node (a := 6) (r := []) (by rfl) ?_
                      simp [allI, o6, w1, w2, w3, w4, g1, g3, g4]
                      refine trT_node (a := 7) (r := []) (by rfl) ?_
                      simp [allI, o7, w1, w2, w3, w4, g1, g3, g4]
                      exact trT_leaf (by rfl) (St.to_le ⟨fun t v h => by rw [hp] at h d0 d1 d2 d3 d4 d5 d6; exact (look_push d6 h (look_push d5 h (look_push d4 h (look_push d3 h (look_push d2 h (look_push d0 h (look_push d1 h h))))))), fun s o h => by rw [hp] at h; exact look_dup h, by rw [hp], by rw [hp]⟩)
                    · refine trT_node (a := 4) (r := [6]) (by rfl) ?_
                      simp [allI, o4, o6, w1, w2, w3, w4, g1, g3, g4]
                      refine ⟨?_, ?_⟩
                      · refine trT_node (a := 6) (r := []) (by rfl) ?_
                        simp [allI, o6, w1, w2, w3, w4, g1, g3, g4]
                        refine trT_node (a := 7) (r := []) (by rfl) ?_
                        simp [allI, o7, w1, w2, w3, w4, g1, g3, g4]
                        exact trT_leaf (by rfl) (St.to_le ⟨fun t v h => by rw [hp] at h d0 d1 d2 d3 d4 d5 d6; exact (look_push d6 h (look_push d4 h (look_push d5 h (look_push d3 h (look_push d2 h (look_push d0 h (look_push d1 h h))))))), fun s o h => by rw [hp] at h; exact look_dup h, by rw [hp], by rw [hp]⟩)
                      · refine trT_node (a := 4) (r := []) (by rfl) ?_
                        simp [allI, o4, w1, w2, w3, w4, g1, g3, g4]
                        refine trT_node (a := 7) (r := []) (by rfl) ?_
                        simp [allI, o7, w1, w2, w3, w4, g1, g3, g4]
                        exact trT_leaf (by rfl) (St.to_le ⟨fun t v h => by rw [hp] at h d0 d1 d2 d3 d4 d5 d6; exact (look_push d4 h (look_push d6 h (look_push d5 h (look_push d3 h (look_push d2 h (look_push d0 h (look_push d1 h h))))))), fun s o h => by rw [hp] at h; exact look_dup h, by rw [hp], by rw [hp]⟩)
                  · refine trT_node (a := 3) (r := [6]) (by rfl) ?_
                    simp [allI, o3, o6, w1, w2, w3, w4, g1, g3, g4]
                    refine ⟨?_, ?_⟩
                    · refine trT_node (a := 4) (r := [6]) (by rfl) ?_
                      simp [allI, o4, o6, w1, w2, w3, w4, g1, g3, g4]
                      refine ⟨?_, ?_⟩
                      · refine trT_node (a := 6) (r := []) (by rfl) ?_
                        simp [allI, o6, w1, w2, w3, w4, g1, g3, g4]
                        refine trT_node (a := 7) (r := []) (by rfl) ?_
                        simp [allI, o7, w1, w2, w3, w4, g1, g3, g4]
                        exact trT_leaf (by rfl) (St.to_le ⟨fun t v h => by rw [hp] at h d0 d1 d2 d3 d4 d5 d6; exact (look_push d6 h (look_push d4 h (look_push d3 h (look_push d5 h (look_push d2 h (look_push d0 h (look_push d1 h h))))))), fun s o h => by rw [hp] at h; exact look_dup h, by rw [hp], by rw [hp]⟩)
                      · refine trT_node (a := 4) (r := []) (by rfl) ?_
                        simp [allI, o4, w1, w2, w3, w4, g1, g3, g4]
                        refine trT_node (a := 7) (r := []) (by rfl) ?_
                        simp [allI, o7, w1, w2, w3, w4, g1, g3, g4]
                        exact trT_leaf (by rfl) (St.to_le ⟨fun t v h => by rw [hp] at h d0 d1 d2 d3 d4 d5 d6; exact (look_push d4 h (look_push d6 h (look_push d3 h (look_push d5 h (look_push d2 h (look_push d0 h (look_push d1 h h))))))), fun s o h => by rw [hp] at h; exact look_dup h, by rw [hp], by rw [hp]⟩)
                    · refine trT_node (a := 3) (r := []) (by rfl) ?_
                      simp [allI, o3, w1, w2, w3, w4, g1, g3, g4]
                      refine trT_node (a := 4) (r := []) (by rfl) ?_
                      simp [allI, o4, w1, w2, w3, w4, g1, g3, g4]
                      refine trT_node (a := 7) (r := []) (by rfl) ?_
                      simp [allI, o7, w1, w2, w3, w4, g1, g3, g4]
                      exact trT_leaf (by rfl) (St.to_le ⟨fun t v h => by rw [hp] at h d0 d1 d2 d3 d4 d5 d6; exact (look_push d4 h (look_push d3 h (look_push d6 h (look_push d5 h (look_push d2 h (look_push d0 h (look_push d1 h h))))))), fun s o h => by rw [hp] at h; exact look_dup h, by rw [hp], by rw [hp]⟩)
                · refine trT_node (a := 0) (r := []) (by rfl) ?_
                  simp [allI, o0, w1, w2, w3, w4, g1, g3, g4]
                  refine trT_node (a := 3) (r := [5]) (by rfl) ?_
                  simp [allI, o3, o5, w1, w2, w3, w4, g1, g3, g4]
                  refine ⟨?_, ?_⟩
                  · refine trT_node (a := 4) (r := [5]) (by rfl) ?_
                    simp [allI, o4, o5, w1, w2, w3, w4, g1, g3, g4]
                    refine ⟨?_, ?_⟩
                    · refine trT_node (a := 5) (r := []) (by rfl) ?_
                      simp [allI, o5, w1, w2, w3, w4, g1, g3, g4]
                      refine trT_node (a := 6) (r := []) (by rfl) ?_
                      simp [allI, o6, w1, w2, w3, w4, g1, g3, g4]
                      refine trT_node (a := 7) (r := []) (by rfl) ?_
                      simp [allI, o7, w1, w2, w3, w4, g1, g3, g4]
                      exact trT_leaf (by rfl) (St.to_le ⟨fun t v h => by rw [hp] at h d0 d1 d2 d3 d4 d5 d6; exact (look_push d6 h (look_push d5 h (look_push d4 h (look_push d3 h (look_push d0 h (look_push d2 h (look_push d1 h h))))))), fun s o h => by rw [hp] at h; exact look_dup h, by rw [hp], by rw [hp]⟩)
                    · refine trT_node (a := 4) (r := [6]) (by rfl) ?_
                      simp [allI, o4, o6, w1, w2, w3, w4, g1, g3, g4]
                      refine ⟨?_, ?_⟩
                      · refine trT_node (a := 6) (r := []) (by rfl) ?_
                        simp [allI, o6, w1, w2, w3, w4, g1, g3, g4]
                        refine trT_node (a := 7) (r := []) (by rfl) ?_
                        simp [allI, o7, w1, w2, w3, w4, g1, g3, g4]
                        exact trT_leaf (by rfl) (St.to_le ⟨fun t v h => by rw [hp] at h d0 d1 d2 d3 d4 d5 d6; exact (look_push d6 h (look_push d4 h (look_push d5 h (look_push d3 h (look_push d0 h (look_push d2 h (look_push d1 h h))))))), fun s o h => by rw [hp] at h; exact look_dup h, by rw [hp], by rw [hp]⟩)
                      · refine trT_node (a := 4) (r := []) (by rfl) ?_
                        simp [allI, o4, w1, w2, w3, w4, g1, g3, g4]
                        refine trT_node (a := 7) (r := []) (by rfl) ?_
                        simp [allI, o7, w1, w2, w3, w4, g1, g3, g4]
                        exact trT_leaf (by rfl) (St.to_le ⟨fun t v h => by rw [hp] at h d0 d1 d2 d3 d4 d5 d6; exact (look_push d4 h (look_push d6 h (look_push d5 h (look_push d3 h (look_push d0 h (look_push d2 h (look_push d1 h h))))))), fun s o h => by rw [hp] at h; exact look_dup h, by rw [hp], by rw [hp]⟩)
                  · refine trT_node (a := 3) (r := [6]) (by rfl) ?_
                    simp [allI, o3, o6, w1, w2, w3, w4, g1, g3, g4]
                    refine ⟨?_, ?_⟩
                    · refine trT_node (a := 4) (r := [6]) (by rfl) ?_
                      simp [allI, o4, o6, w1, w2, w3, w4, g1, g3, g4]
                      refine ⟨?_, ?_⟩
                      · refine trT_node (a := 6) (r := []) (by rfl) ?_
                        simp [allI, o6, w1, w2, w3, w4, g1, g3, g4]
                        refine trT_node (a := 7) (r := []) (by rfl) ?_
                        simp [allI, o7, w1, w2, w3, w4, g1, g3, g4]
                        exact trT_leaf (by rfl) (St.to_le ⟨fun t v h => by rw [hp] at h d0 d1 d2 d3 d4 d5 d6; exact (look_push d6 h (look_push d4 h (look_push d3 h (look_push d5 h (look_push d0 h (look_push d2 h (look_push d1 h h))))))), fun s o h => by rw [hp] at h; exact look_dup h, by rw [hp], by rw [hp]⟩)
                      · refine trT_node (a := 4) (r := []) (by rfl) ?_
                        simp [allI, o4, w1, w2, w3, w4, g1, g3, g4]
                        refine trT_node (a := 7) (r := []) (by rfl) ?_
                        simp [allI, o7, w1, w2, w3, w4, g1, g3, g4]
                        exact trT_leaf (by rfl) (St.to_le ⟨fun t v h => by rw [hp] at h d0 d1 d2 d3 d4 d5 d6; exact (look_push d4 h (look_push d6 h (look_push d3 h (look_push d5 h (look_push d0 h (look_push d2 h (look_push d1 h h))))))), fun s o h => by rw [hp] at h; exact look_dup h, by rw [hp], by rw [hp]⟩)
                    · refine trT_node (a := 3) (r := []) (by rfl) ?_
                      simp [allI, o3, w1, w2, w3, w4, g1, g3, g4]
                      refine trT_node (a := 4) (r := []) (by rfl) ?_
                      simp [allI, o4, w1, w2, w3, w4, g1, g3, g4]
                      refine trT_node (a := 7) (r := []) (by rfl) ?_
                      simp [allI, o7, w1, w2, w3, w4, g1, g3, g4]
                      exact trT_leaf (by rfl) (St.to_le ⟨fun t v h => by rw [hp] at h d0 d1 d2 d3 d4 d5 d6; exact (look_push d4 h (look_push d3 h (look_push d6 h (look_push d5 h (look_push d0 h (look_push d2 h (look_push d1 h h))))))), fun s o h => by rw [hp] at h; exact look_dup h, by rw [hp], by rw [hp]⟩)
            · simp [w1, w2, w3, w4, f2, g3, g4]
          · have g1 := findK_none 0 hm
            have g2 := findK_push 0 hm
            have g3 := Kp_push T (tmP t)
            have g5 := findK_last (v := i64 0) 0 hm
            simp only [Nat.zero_add, kV, tmP] at g1 g2 g3 g5
            have hT : T ++ [tmP t] = ((l.take (i + 1)).filter isCm).map tmP := by rw [j3, ht1, List.filter_append]; simp [hc]
            have hj : twG (l.take (i + 1)) (l.drop (i + 1)) = twiceS l := by rw [← j4, ht1]; simp [hn, hc, hm]
            simp [hc', w1, w2, w3, w4, f2]
            refine inc_region afInc [(1, .map (Kp (T ++ [(t.tm, t.ac)])))] 8 (by rfl) (by kernel_rfl) (by rfl) ?_ ?_
            · intro ops post ho hp
              have o0 := congrArg (·[0]?) ho
              have o1 := congrArg (·[1]?) ho
              have o2 := congrArg (·[2]?) ho
              have o3 := congrArg (·[3]?) ho
              have o4 := congrArg (·[4]?) ho
              have o5 := congrArg (·[5]?) ho
              have o6 := congrArg (·[6]?) ho
              have o7 := congrArg (·[7]?) ho
              have d0 : look 25 post.env = none := by rw [hp]; rfl
              have d1 : look 26 post.env = none := by rw [hp]; rfl
              have d2 : look 27 post.env = none := by rw [hp]; rfl
              have d3 : look 28 post.env = none := by rw [hp]; rfl
              have d4 : look 29 post.env = none := by rw [hp]; rfl
              have d5 : look 30 post.env = none := by rw [hp]; rfl
              have d6 : look 31 post.env = none := by rw [hp]; rfl
              simp only [List.getElem?_cons_zero, List.getElem?_cons_succ] at o0 o1 o2 o3 o4 o5 o6 o7
              clear ho
              refine trT_node (a := 0) (r := [1]) (by rfl) ?_
              simp [allI, o0, o1, w1, w2, w3, w4, g1, g3, g5]
              refine ⟨?_, ?_⟩
              · refine trT_node (a := 1) (r := []) (by rfl) ?_
                simp [allI, o1, w1, w2, w3, w4, g1, g3, g5]
                refine trT_node (a := 2) (r := []) (by rfl) ?_
                simp [allI, o2, w1, w2, w3, w4, g1, g3, g5]
                refine trT_node (a := 3) (r := [5]) (by rfl) ?_
                simp [allI, o3, o5, w1, w2, w3, w4, g1, g3, g5]
                refine ⟨?_, ?_⟩
                · refine trT_node (a := 4) (r := [5]) (by rfl) ?_
                  simp [allI, o4, o5, w1, w2, w3, w4, g1, g3, g5]
                  refine ⟨?_, ?_⟩
                  · refine trT_node (a := 5) (r := []) (by rfl) ?_
                    simp [allI, o5, w1, w2, w3, w4, g1, g3, g5]
                    refine trT_node (a := 6) (r := []) (by rfl) ?_
                    simp [allI, o6, w1, w2, w3, w4, g1, g3, g5]
                    refine trT_node (a := 7) (r := []) (by rfl) ?_
                    simp [allI, o7, w1, w2, w3, w4, g1, g3, g5]
                    exact trT_leaf (by rfl) (St.to_le ⟨fun t v h => by rw [hp] at h d0 d1 d2 d3 d4 d5 d6; exact (look_push d6 h (look_push d5 h (look_push d4 h (look_push d3 h (look_push d2 h (look_push d1 h (look_push d0 h h))))))), fun s o h => by rw [hp] at h; exact look_dup h, by rw [hp], by rw [hp]⟩)
                  · refine trT_node (a := 4) (r := [6]) (by rfl) ?_
                    simp [allI, o4, o6, w1, w2, w3, w4, g1, g3, g5]
                    refine ⟨?_, ?_⟩
                    · refine trT_node (a := 6) (r := []) (by rfl) ?_
                      simp [allI, o6, w1, w2, w3, w4, g1, g3, g5]
                      refine trT_node (a := 7) (r := []) (by rfl) ?_
                      simp [allI, o7, w1, w2, w3, w4, g1, g3, g5]
                      exact trT_leaf (by rfl) (St.to_le ⟨fun t v h => by rw [hp] at h d0 d1 d2 d3 d4 d5 d6; exact (look_push d6 h (look_push d4 h (look_push d5 h (look_push d3 h (look_push d2 h (look_push d1 h (look_push d0 h h))))))), fun s o h => by rw [hp] at h; exact look_dup h, by rw [hp], by rw [hp]⟩)
                    · refine trT_node (a := 4) (r := []) (by rfl) ?_
                      simp [allI, o4, w1, w2, w3, w4, g1, g3, g5]
                      refine trT_node (a := 7) (r := []) (by rfl) ?_
                      simp [allI, o7, w1, w2, w3, w4, g1, g3, g5]
                      exact trT_leaf (by rfl) (St.to_le ⟨fun t v h => by rw [hp] at h d0 d1 d2 d3 d4 d5 d6; exact (look_push d4 h (look_push d6 h (look_push d5 h (look_push d3 h (look_push d2 h (look_push d1 h (look_push d0 h h))))))), fun s o h => by rw [hp] at h; exact look_dup h, by rw [hp], by rw [hp]⟩)
                · refine trT_node (a := 3) (r := [6]) (by rfl) ?_
                  simp [allI, o3, o6, w1, w2, w3, w4, g1, g3, g5]
                  refine ⟨?_, ?_⟩
                  · refine trT_node (a := 4) (r := [6]) (by rfl) ?_
                    simp [allI, o4, o6, w1, w2, w3, w4, g1, g3, g5]
                    refine ⟨?_, ?_⟩
                    · refine trT_node (a := 6) (r := []) (by rfl) ?_
                      simp [allI, o6, w1, w2, w3, w4, g1, g3, g5]
                      refine trT_node (a := 7) (r := []) (by rfl) ?_
                      simp [allI, o7, w1, w2, w3, w4, g1, g3, g5]
                      exact trT_leaf (by rfl) (St.to_le ⟨fun t v h => by rw [hp] at h d0 d1 d2 d3 d4 d5 d6; exact (look_push d6 h (look_push d4 h (look_push d3 h (look_push d5 h (look_push d2 h (look_push d1 h (look_push d0 h h))))))), fun s o h => by rw [hp] at h; exact look_dup h, by rw [hp], by rw [hp]⟩)
                    · refine trT_node (a := 4) (r := []) (by rfl) ?_
                      simp [allI, o4, w1, w2, w3, w4, g1, g3, g5]
                      refine trT_node (a := 7) (r := []) (by rfl) ?_
                      simp [allI, o7, w1, w2, w3, w4, g1, g3, g5]
                      exact trT_leaf (by rfl) (St.to_le ⟨fun t v h => by rw [hp] at h d0 d1 d2 d3 d4 d5 d6; exact (look_push d4 h (look_push d6 h (look_push d3 h (look_push d5 h (look_push d2 h (look_push d1 h (look_push d0 h h))))))), fun s o h => by rw [hp] at h; exact look_dup h, by rw [hp], by rw [hp]⟩)
                  · refine trT_node (a := 3) (r := []) (by rfl) ?_
                    simp [allI, o3, w1, w2, w3, w4, g1, g3, g5]
                    refine trT_node (a := 4) (r := []) (by rfl) ?_
                    simp [allI, o4, w1, w2, w3, w4, g1, g3, g5]
                    refine trT_node (a := 7) (r := []) (by rfl) ?_
                    simp [allI, o7, w1, w2, w3, w4, g1, g3, g5]
                    exact trT_leaf (by rfl) (St.to_le ⟨fun t v h => by rw [hp] at h d0 d1 d2 d3 d4 d5 d6; exact (look_push d4 h (look_push d3 h (look_push d6 h (look_push d5 h (look_push d2 h (look_push d1 h (look_push d0 h h))))))), fun s o h => by rw [hp] at h; exact look_dup h, by rw [hp], by rw [hp]⟩)
              · refine trT_node (a := 0) (r := [2]) (by rfl) ?_
                simp [allI, o0, o2, w1, w2, w3, w4, g1, g3, g5]
                refine ⟨?_, ?_⟩
                · refine trT_node (a := 2) (r := []) (by rfl) ?_
                  simp [allI, o2, w1, w2, w3, w4, g1, g3, g5]
                  refine trT_node (a := 3) (r := [5]) (by rfl) ?_
                  simp [allI, o3, o5, w1, w2, w3, w4, g1, g3, g5]
                  refine ⟨?_, ?_⟩
                  · refine trT_node (a := 4) (r := [5]) (by rfl) ?_
                    simp [allI, o4, o5, w1, w2, w3, w4, g1, g3, g5]
                    refine ⟨?_, ?_⟩
                    · refine trT_node (a := 5) (r := []) (by rfl) ?_
                      simp [allI, o5, w1, w2, w3, w4, g1, g3, g5]
                      refine trT_node (a := 6) (r := []) (by rfl) ?_
                      simp [allI, o6, w1, w2, w3, w4, g1, g3, g5]
                      refine trT_node (a := 7) (r := []) (by rfl) ?_
                      simp [allI, o7, w1, w2, w3, w4, g1, g3, g5]
                      exact trT_leaf (by rfl) (St.to_le ⟨fun t v h => by rw [hp] at h d0 d1 d2 d3 d4 d5 d6; exact (look_push d6 h (look_push d5 h (look_push d4 h (look_push d3 h (look_push d2 h (look_push d0 h (look_push d1 h h))))))), fun s o h => by rw [hp] at h; exact look_dup h, by rw [hp], by rw [hp]⟩)
                    · refine trT_node (a := 4) (r := [6]) (by rfl) ?_
                      simp [allI, o4, o6, w1, w2, w3, w4, g1, g3, g5]
                      refine ⟨?_, ?_⟩
                      · refine trT_node (a := 6) (r := []) (by rfl) ?_
                        simp [allI, o6, w1, w2, w3, w4, g1, g3, g5]
                        refine trT_node (a := 7) (r := []) (by rfl) ?_
                        simp [allI, o7, w1, w2, w3, w4, g1, g3, g5]
                        exact trT_leaf (by rfl) (St.to_le ⟨fun t v h => by rw [hp] at h d0 d1 d2 d3 d4 d5 d6; exact (look_push d6 h (look_push d4 h (look_push d5 h (look_push d3 h (look_push d2 h (look_push d0 h (look_push d1 h h))))))), fun s o h => by rw [hp] at h; exact look_dup h, by rw [hp], by rw [hp]⟩)
                      · refine trT_node (a := 4) (r := []) (by rfl) ?_
                        simp [allI, o4, w1, w2, w3, w4, g1, g3, g5]
                        refine trT_node (a := 7) (r := []) (by rfl) ?_
                        simp [allI, o7, w1, w2, w3, w4, g1, g3, g5]
                        exact trT_leaf (by rfl) (St.to_le ⟨fun t v h => by rw [hp] at h d0 d1 d2 d3 d4 d5 d6; exact (look_push d4 h (look_push d6 h (look_push d5 h (look_push d3 h (look_push d2 h (look_push d0 h (look_push d1 h h))))))), fun s o h => by rw [hp] at h; exact look_dup h, by rw [hp], by rw [hp]⟩)
                  · refine trT_node (a := 3) (r := [6]) (by rfl) ?_
                    simp [allI, o3, o6, w1, w2, w3, w4, g1, g3, g5]
                    refine ⟨?_, ?_⟩
                    · refine trT_node (a := 4) (r := [6]) (by rfl) ?_
                      simp [allI, o4, o6, w1, w2, w3, w4, g1, g3, g5]
                      refine ⟨?_, ?_⟩
                      · refine trT_node (a := 6) (r := []) (by rfl) ?_
                        simp [allI, o6, w1, w2, w3, w4, g1, g3, g5]
                        refine trT_node (a := 7) (r := []) (by rfl) ?_
                        simp [allI, o7, w1, w2, w3, w4, g1, g3, g5]
                        exact trT_leaf (by rfl) (St.to_le ⟨fun t v h => by rw [hp] at h d0 d1 d2 d3 d4 d5 d6; exact (look_push d6 h (look_push d4 h (look_push d3 h (look_push d5 h (look_push d2 h (look_push d0 h (look_push d1 h h))))))), fun s o h => by rw [hp] at h; exact look_dup h, by rw [hp], by rw [hp]⟩)
                      · refine trT_node (a := 4) (r := []) (by rfl) ?_
                        simp [allI, o4, w1, w2, w3, w4, g1, g3, g5]
                        refine trT_node (a := 7) (r := []) (by rfl) ?_
                        simp [allI, o7, w1, w2, w3, w4, g1, g3, g5]
                        exact trT_leaf (by rfl) (St.to_le ⟨fun t v h => by rw [hp] at h d0 d1 d2 d3 d4 d5 d6; exact (look_push d4 h (look_push d6 h (look_push d3 h (look_push d5 h (look_push d2 h (look_push d0 h (look_push d1 h h))))))), fun s o h => by rw [hp] at h; exact look_dup h, by rw [hp], by rw [hp]⟩)
                    · refine trT_node (a := 3) (r := []) (by rfl) ?_
                      simp [allI, o3, w1, w2, w3, w4, g1, g3, g5]
                      refine trT_node (a := 4) (r := []) (by rfl) ?_
                      simp [allI, o4, w1, w2, w3, w4, g1, g3, g5]
                      refine trT_node (a := 7) (r := []) (by rfl) ?_
                      simp [allI, o7, w1, w2, w3, w4, g1, g3, g5]
                      exact trT_leaf (by rfl) (St.to_le ⟨fun t v h => by rw [hp] at h d0 d1 d2 d3 d4 d5 d6; exact (look_push d4 h (look_push d3 h (look_push d6 h (look_push d5 h (look_push d2 h (look_push d0 h (look_push d1 h h))))))), fun s o h => by rw [hp] at h; exact look_dup h, by rw [hp], by rw [hp]⟩)
                · refine trT_node (a := 0) (r := []) (by rfl) ?_
                  simp [allI, o0, w1, w2, w3, w4, g1, g3, g5]
                  refine trT_node (a := 3) (r := [5]) (by rfl) ?_
                  simp [allI, o3, o5, w1, w2, w3, w4, g1, g3, g5]
                  refine ⟨?_, ?_⟩
                  · refine trT_node (a := 4) (r := [5]) (by rfl) ?_
                    simp [allI, o4, o5, w1, w2, w3, w4, g1, g3, g5]
                    refine ⟨?_, ?_⟩
                    · refine trT_node (a := 5) (r := []) (by rfl) ?_
                      simp [allI, o5, w1, w2, w3, w4, g1, g3, g5]
                      refine trT_node (a := 6) (r := []) (by rfl) ?_
                      simp [allI, o6, w1, w2, w3, w4, g1, g3, g5]
                      refine trT_node (a := 7) (r := []) (by rfl) ?_
                      simp [allI, o7, w1, w2, w3, w4, g1, g3, g5]
                      exact trT_leaf (by rfl) (St.to_le ⟨fun t v h => by rw [hp] at h d0 d1 d2 d3 d4 d5 d6; exact (look_push d6 h (look_push d5 h (look_push d4 h (look_push d3 h (look_push d0 h (look_push d2 h (look_push d1 h h))))))), fun s o h => by rw [hp] at h; exact look_dup h, by rw [hp], by rw [hp]⟩)
                    · refine trT_node (a := 4) (r := [6]) (by rfl) ?_
                      simp [allI, o4, o6, w1, w2, w3, w4, g1, g3, g5]
                      refine ⟨?_, ?_⟩
                      · refine trT_node (a := 6) (r := []) (by rfl) ?_
                        simp [allI, o6, w1, w2, w3, w4, g1, g3, g5]
                        refine trT_node (a := 7) (r := []) (by rfl) ?_
                        simp [allI, o7, w1, w2, w3, w4, g1, g3, g5]
                        exact trT_leaf (by rfl) (St.to_le ⟨fun t v h => by rw [hp] at h d0 d1 d2 d3 d4 d5 d6; exact (look_push d6 h (look_push d4 h (look_push d5 h (look_push d3 h (look_push d0 h (look_push d2 h (look_push d1 h h))))))), fun s o h => by rw [hp] at h; exact look_dup h, by rw [hp], by rw [hp]⟩)
                      · refine trT_node (a := 4) (r := []) (by rfl) ?_
                        simp [allI, o4, w1, w2, w3, w4, g1, g3, g5]
                        refine trT_node (a := 7) (r := []) (by rfl) ?_
                        simp [allI, o7, w1, w2, w3, w4, g1, g3, g5]
                        exact trT_leaf (by rfl) (St.to_le ⟨fun t v h => by rw [hp] at h d0 d1 d2 d3 d4 d5 d6; exact (look_push d4 h (look_push d6 h (look_push d5 h (look_push d3 h (look_push d0 h (look_push d2 h (look_push d1 h h))))))), fun s o h => by rw [hp] at h; exact look_dup h, by rw [hp], by rw [hp]⟩)
                  · refine trT_node (a := 3) (r := [6]) (by rfl) ?_
                    simp [allI, o3, o6, w1, w2, w3, w4, g1, g3, g5]
                    refine ⟨?_, ?_⟩
                    · refine trT_node (a := 4) (r := [6]) (by rfl) ?_
                      simp [allI, o4, o6, w1, w2, w3, w4, g1, g3, g5]
                      refine ⟨?_, ?_⟩
                      · refine trT_node (a := 6) (r := []) (by rfl) ?_
                        simp [allI, o6, w1, w2, w3, w4, g1, g3, g5]
                        refine trT_node (a := 7) (r := []) (by rfl) ?_
                        simp [allI, o7, w1, w2, w3, w4, g1, g3, g5]
                        exact trT_leaf (by rfl) (St.to_le ⟨fun t v h => by rw [hp] at h d0 d1 d2 d3 d4 d5 d6; exact (look_push d6 h (look_push d4 h (look_push d3 h (look_push d5 h (look_push d0 h (look_push d2 h (look_push d1 h h))))))), fun s o h => by rw [hp] at h; exact look_dup h, by rw [hp], by rw [hp]⟩)
                      · refine trT_node (a := 4) (r := []) (by rfl) ?_
                        simp [allI, o4, w1, w2, w3, w4, g1, g3, g5]
                        refine trT_node (a := 7) (r := []) (by rfl) ?_
                        simp [allI, o7, w1, w2, w3, w4, g1, g3, g5]
                        exact trT_leaf (by rfl) (St.to_le ⟨fun t v h => by rw [hp] at h d0 d1 d2 d3 d4 d5 d6; exact (look_push d4 h (look_push d6 h (look_push d3 h (look_push d5 h (look_push d0 h (look_push d2 h (look_push d1 h h))))))), fun s o h => by rw [hp] at h; exact look_dup h, by rw [hp], by rw [hp]⟩)
                    · refine trT_node (a := 3) (r := []) (by rfl) ?_
                      simp [allI, o3, w1, w2, w3, w4, g1, g3, g5]
                      refine trT_node (a := 4) (r := []) (by rfl) ?_
                      simp [allI, o4, w1, w2, w3, w4, g1, g3, g5]
                      refine trT_node (a := 7) (r := []) (by rfl) ?_
                      simp [allI, o7, w1, w2, w3, w4, g1, g3, g5]
                      exact trT_leaf (by rfl) (St.to_le ⟨fun t v h => by rw [hp] at h d0 d1 d2 d3 d4 d5 d6; exact (look_push d4 h (look_push d3 h (look_push d6 h (look_push d5 h (look_push d0 h (look_push d2 h (look_push d1 h h))))))), fun s o h => by rw [hp] at h; exact look_dup h, by rw [hp], by rw [hp]⟩)
            · simp [w1, w2, w3, w4, f2, g2]
              exact Exists.intro (i + 1) (And.intro (by omega) (Exists.intro (N ++ [nmP t]) (Exists.intro (T ++ [tmP t]) (And.intro ⟨by omega, by simpa using hN2, hT, hj⟩ (St.to_chk [] (by simp [hw, nmP, tmP]))))))
  · rw [List.drop_eq_nil_of_le (by omega), twG] at j4
    rw [← j4]
    simp [hi]
end Go.Proofs.Ytnldlkkcdgdkgaa.AX
