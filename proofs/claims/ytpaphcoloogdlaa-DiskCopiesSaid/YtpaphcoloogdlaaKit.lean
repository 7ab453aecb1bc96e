/- Steps of a walk over memory that is known block by block: each leaves the world behind it as a new name, with what is known of it. -/
import Derived.Test.YtpaphcoloogdlaaWRepsOne
import Derived.Test.YtpaphcoloogdlaaWNEv
import Derived.Test.YtpaphcoloogdlaaWMore
import Derived.LoopN
namespace Go.Proofs.Ytpaphcoloogdlaa.Kit
open Go.RowKit Go.Proofs.YtpaphcoloogdlaaW.PrintWords Go.Proofs.YtpaphcoloogdlaaW.PrintLast Go.Proofs.YtpaphcoloogdlaaW.PrintMore
set_option linter.unusedVariables false
set_option linter.unusedSimpArgs false

/-- A row of whole numbers, read at a place. -/
theorem at_nat {k : IntKind} {w : World} {A : Option Addr} {n : Nat} {xs : List Int} (h : (Kd.int k).C w A n xs) (i : Nat) (h1 : i < n) : ∃ ad, A = some ad ∧ w.cell? (ad.add i) = some (.int k (xs.getD i 0)) := by
  obtain ⟨ad, e, hx⟩ := Kd.at_int h (i : Int) (by omega) (by omega)
  exact ⟨ad, e, by simpa [rd] using hx⟩

/-- A block known whole: a row of whole numbers with zeros (or whatever) behind. -/
theorem C_of_block {k : IntKind} {w : World} {g : Nat} {e : TypeId} {cs : Array Value} {fr : Nat × Nat} {xs : List Int} {off : Nat} (h : w.heap[g]? = some (.cells cs e fr)) (hx : ∀ i, i < xs.length → cs[off + i]? = some (.int k (xs.getD i 0))) (hm : xs.length ≤ 9223372036854775807) : (Kd.int k).C w (some ⟨g, off, none⟩) xs.length xs := by
  refine ⟨rfl, hm, fun _ => ⟨_, rfl, fun j p hj => ⟨[.int k p], rfl, rfl, fun i u hi => ?_⟩⟩⟩
  have hlt : j < xs.length := (List.getElem?_eq_some_iff.1 hj).1
  have hp : xs.getD j 0 = p := by simp [List.getD_eq_getElem?_getD, hj]
  have hi0 : i = 0 := by
    rcases i with _ | i
    · rfl
    · simp at hi
  subst hi0
  have hu : Value.int k p = u := by simpa using hi
  subst hu
  have hs : (Kd.int k).sz = 1 := rfl
  rw [hs, Nat.mul_one, Nat.add_zero]
  have := hx j hlt
  rw [hp] at this
  rw [Addr.add_lit]
  simpa [World.cell?, h] using this

theorem below_of_grown {w w1 : World} (h : w.grownBy w1 none) : Below w.heap.size w w1 := ⟨h.os, h.tape, h.output, h.size, fun k hk => h.block k hk (by simp)⟩
section
variable {P : Program} {ops : Array Oper} {rest : List Oper} {o : Oper} {a : Act} {Q : Exit → Act → World → Prop}

theorem madeCells_eq (z : Value) (n : Nat) : madeCells #[z] n = (List.replicate n z).toArray := by
  apply Array.ext
  · simp [madeCells]
  · intro i h1 h2
    simp [madeCells, Nat.mod_one]

/-- make([]T, l, c): a new block. -/
theorem make_event {W : World} (hgd : o.guard = none) {N : Tmp} (_hd : o.dst = some N) (t : TypeId) (x y : Operand) (ho : o.op = .makeSlice t x y) (kl kc : IntKind) (l c : Nat) (hx : a.eval x = .int kl (l : Int)) (hy : a.eval y = .int kc (c : Int)) (hlc : l ≤ c)
    (e : TypeId) (z : Value) (bytes : Nat) (ht : P.underlying t = some (.slice e)) (hinfo : (P.info? e).map (fun i => (i.zero, i.size, i.bytes)) = some (some z, 1, bytes)) (hz : z.cells = #[z]) (hb : bytes * c ≤ 281474976710656) (hm : c ≤ 9223372036854775807)
    (h : ∀ g, g = W.heap.size → ∀ w1, w1.heap[g]? = some (.cells (List.replicate c z).toArray e (0, 0)) → Below W.heap.size W w1 → wpList P ops Q rest (a.put o.dst (.slice (some ⟨g, 0, none⟩) l c)) w1) : wpList P ops Q (o :: rest) a W := by
  obtain ⟨i, hi, hz0, hs, hbb⟩ := info_parts hinfo
  have hbc : ((bytes * c : Nat) : Int) ≤ 281474976710656 := by omega
  rw [Int.natCast_mul] at hbc
  have hr := run_make (P := P) W t e i z ht hi hz0 kl kc (l : Int) (c : Int) (by omega) (by omega) (by rw [hbb]; exact hbc) (by omega)
  simp only [Int.toNat_natCast, hs, Nat.mul_one, hz, madeCells_eq] at hr
  refine Kd.event_run (v := .slice (some ⟨W.heap.size, 0, none⟩) l c) (w1 := W.alloc (.cells (List.replicate c z).toArray e)) hgd ?_ (h _ rfl _ (blk_new W _) (below_alloc (Below.refl _ _) _))
  unfold execOp
  simp [ho, hx, hy, hr, Result.andThen]

/-- append within the capacity, to a block that is known whole. -/
theorem append_room_event {W : World} (hgd : o.guard = none) {N : Tmp} (_hd : o.dst = some N) (s x : Operand) (t : TypeId) (ho : o.op = .call { callee := .builtin .append, args := #[s, x], argTypes := #[t, t] })
    (e : TypeId) (ht : P.underlying t = some (.slice e)) (hinfo : (P.info? e).map (·.size) = some 1)
    (g n cap : Nat) (cur : List Value) (hg : W.heap[g]? = some (.cells cur.toArray e (0, 0))) (hs : a.eval s = .slice (some ⟨g, 0, none⟩) n cap)
    (A : Option Addr) (m c : Nat) (ys : List Value) (hx : a.eval x = .slice A m c) (hy : ys.length = m) (hR : 0 < m → ∃ ad, A = some ad ∧ ∀ j u, ys[j]? = some u → W.cell? (ad.add j) = some u) (h1 : ∀ u ∈ ys, u.oneCell' = true)
    (hroom : n + m ≤ cap) (hfit : cap ≤ cur.length)
    (h : ∀ w1, w1.heap[g]? = some (.cells (cur.take n ++ ys ++ cur.drop (n + m)).toArray e (0, 0)) → W.grownBy w1 (some g) → wpList P ops Q rest (a.put o.dst (.slice (some ⟨g, 0, none⟩) (n + m) cap)) w1) : wpList P ops Q (o :: rest) a W := by
  obtain ⟨i, hi, hsz⟩ := Option.map_eq_some_iff.1 hinfo
  rcases A with _ | ad
  · have h0 : m = 0 := by
      rcases Nat.eq_zero_or_pos m with h0 | h0
      · exact h0
      · obtain ⟨ad, h, _⟩ := hR h0
        cases h
    subst h0
    obtain rfl : ys = [] := List.eq_nil_of_length_eq_zero hy
    have hroom' : n ≤ cap := by omega
    have hr : (Builtin.append_ #[t, t] o.type #[.slice (some ⟨g, 0, none⟩) n cap, .slice none 0 c]).run P W = .ok (.slice (some ⟨g, 0, none⟩) (n + 0) cap) W := by
      simp [Builtin.append_, run_underlying ht, sizeOf, typeInfo, hi, Builtin.lenOf, Builtin.firstCells, hroom', storeCells]
    refine wpList_plain hgd fun K hK => ?_
    unfold Oper.wp execOp
    simp only [ho, resolve, invoke, builtin, Sem.run_bind, Sem.run_pure, Result.andThen_ok, List.map_toArray, List.map_cons, List.map_nil, hs, hx, hr]
    exact hK _ _ (h W (by simpa using hg) (World.grownBy.refl W _))
  · have hcells : ∀ j u, ys[j]? = some u → W.cell? (ad.add j) = some u := by
      intro j u hu
      have hj : j < ys.length := (List.getElem?_eq_some_iff.1 hu).1
      obtain ⟨ad', e', hc⟩ := hR (by omega)
      cases e'
      exact hc j u hu
    have hr := run_append_room (P := P) W t o.type e i ht hi g n cap cur.toArray hg ad m c ys (by rw [hsz]; omega) hcells h1 hroom (by rw [hsz]; simp; omega)
    simp only [hsz, Nat.mul_one, hy] at hr
    refine wpList_plain hgd fun K hK => ?_
    unfold Oper.wp execOp
    simp only [ho, resolve, invoke, builtin, Sem.run_bind, Sem.run_pure, Result.andThen_ok, List.map_toArray, List.map_cons, List.map_nil, hs, hx, hr]
    exact hK _ _ (h _ (setRow_heap W g _ _ e _ hg) ⟨rfl, rfl, rfl, by simp [World.setRow], fun k _ hk => setRow_other W g k _ (fun e => hk (by simp [e]))⟩)
/-- A row of whole numbers of the call's own: made from block 'base' on. -/
def Own (k : IntKind) (e : TypeId) (w : World) (base : Nat) (v : Value) (xs : List Int) : Prop := Kd.R (Kd.int k) e w base (fun _ => True) v xs
theorem Own.below {k : IntKind} {e : TypeId} {w w1 : World} {base : Nat} {v : Value} {xs : List Int} (h : Own k e w base v xs) (hb : Below w.heap.size w w1) : Own k e w1 base v xs := Kd.R_below h hb
theorem Own.lower {k : IntKind} {e : TypeId} {w : World} {base b : Nat} {v : Value} {xs : List Int} (h : Own k e w base v xs) (hb : b ≤ base) : Own k e w b v xs := Kd.R_lower h hb
theorem Own.reads {k : IntKind} {e : TypeId} {w : World} {base : Nat} {v : Value} {xs : List Int} (h : Own k e w base v xs) : ∃ A c, v = .slice A xs.length c ∧ xs.length ≤ c ∧ Kd.C (Kd.int k) w A xs.length xs := Kd.R_reads h
/-- '[]T{..}' of whole numbers. -/
theorem lit_event {w0 W : World} (base : Nat) (hgd : o.guard = none) {N : Tmp} (_hd : o.dst = some N) (k : IntKind) (e : TypeId) (xs : List Int)
    (hrun : (execOp a.eval o).run P W = .ok (.value (.slice (some ⟨W.heap.size, 0, none⟩) xs.length xs.length)) (W.alloc (.cells (nums k xs).toArray e)))
    (HB : Below base w0 W) (hbase : base ≤ W.heap.size) (hm : xs.length ≤ 9223372036854775807)
    (h : ∀ v1 w1, Own k e w1 base v1 xs → Below base w0 w1 → Below W.heap.size W w1 → wpList P ops Q rest (a.put o.dst v1) w1) : wpList P ops Q (o :: rest) a W :=
  Kd.R_lit (Kd.int k) base e hgd _hd (ok := fun _ => True) (okp := fun _ => True) hrun (by
    clear hrun h hm
    induction xs with
    | nil => exact Reps.none _ _
    | cons x xs ih => exact Reps.one (show Kd.M (Kd.int k) _ _ _ x [.int k x] from rfl) ih) (fun _ h => h) trivial HB hbase hm
    (fun v1 w1 h1 h2 h3 _ => h v1 w1 h1 h2 (below_of_grown h3))
/-- append(v, x): one number. -/
theorem app1_event {w0 W : World} (base : Nat) (hgd : o.guard = none) {N : Tmp} (_hd : o.dst = some N) (k : IntKind) (s x : Operand) (t e : TypeId) (z : Value) (bytes : Nat)
    (ho : o.op = .call { callee := .builtin .append, args := #[s, x], argTypes := #[t, t] })
    (ht : P.underlying t = some (.slice e)) (hinfo : (P.info? e).map (fun i => (i.zero, i.size, i.bytes)) = some (some z, 1, bytes)) (hz : z.cells.size = 1) (hb0 : 0 < bytes)
    (v : Value) (xs : List Int) (p : Int) (hs : a.eval s = v) (hx : a.eval x = .slice (some ⟨W.heap.size, 0, none⟩) 1 1)
    (HO : Own k e W base v xs) (HB : Below base w0 W) (hbase : base ≤ W.heap.size) (hl : (xs.length + 1) * bytes ≤ 140737488355328)
    (h : ∀ v1 w1, Own k e w1 base v1 (xs ++ [p]) → Below base w0 w1 → W.grownBy w1 v.ownBlock → wpList P ops Q rest (a.put o.dst v1) w1) :
    wpList P ops Q (o :: rest) a (W.alloc (.cells #[.int k p] e)) :=
  Kd.R_append (Kd.int k) (w0 := w0) base hgd s x t e z bytes ho ht hinfo hz (by show 0 < 1; omega) hb0 v xs p [.int k p] (fun _ => True) (fun _ => False) hs hx rfl (fun _ hk => hk.elim) (fun _ _ => trivial) HO HB hbase hl
    (fun v1 w1 h1 h2 h3 _ => h v1 w1 h1 h2 h3)
/-- append(v, ys...): numbers that are read. -/
theorem appN_event {w0 W : World} (base : Nat) (hgd : o.guard = none) {N : Tmp} (_hd : o.dst = some N) (k : IntKind) (s x : Operand) (t e : TypeId) (z : Value) (bytes : Nat)
    (ho : o.op = .call { callee := .builtin .append, args := #[s, x], argTypes := #[t, t] })
    (ht : P.underlying t = some (.slice e)) (hinfo : (P.info? e).map (fun i => (i.zero, i.size, i.bytes)) = some (some z, 1, bytes)) (hz : z.cells.size = 1) (hb0 : 0 < bytes)
    (v : Value) (xs ys : List Int) (A : Option Addr) (m c : Nat) (hs : a.eval s = v) (hx : a.eval x = .slice A m c)
    (HO : Own k e W base v xs) (HR : Kd.C (Kd.int k) W A m ys) (HB : Below base w0 W) (hbase : base ≤ W.heap.size) (hl : (xs.length + m) * bytes ≤ 140737488355328)
    (h : ∀ v1 w1, Own k e w1 base v1 (xs ++ ys) → Below base w0 w1 → W.grownBy w1 v.ownBlock → wpList P ops Q rest (a.put o.dst v1) w1) :
    wpList P ops Q (o :: rest) a W :=
  Kd.R_append_rows (Kd.int k) (w0 := w0) base hgd s x t e z bytes ho ht hinfo hz (by show 0 < 1; omega) hb0 v xs ys A m c (fun _ => True) (fun _ => False) hs hx HO HR (fun _ _ h => h) (fun _ h => h.elim) (fun _ _ => trivial) HB hbase hl
    (fun v1 w1 h1 h2 h3 _ => h v1 w1 h1 h2 h3)
end
end Go.Proofs.Ytpaphcoloogdlaa.Kit
