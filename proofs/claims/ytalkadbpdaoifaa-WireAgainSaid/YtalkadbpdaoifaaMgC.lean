/- A verified evaluator of code over values, its third part: drawn regions, loops, calls of functions that are handed objects. -/
import Derived.Test.YtalkadbpdaoifaaMgB
/- Regions that draw their order, walked over states. -/
namespace Go.Proofs.Ytalkadbpdaoifaa.AX
open Go Go.RowKit
set_option linter.unusedVariables false
set_option linter.unusedSimpArgs false
def pick {α : Type} (env : List (Nat × α)) : List Nat → List (Nat × α)
  | [] => []
  | t :: r => match look t env with
    | some v => (t, v) :: pick env r
    | none => pick env r
def tmpsO : List Operand → List Nat
  | [] => []
  | .tmp t :: r => t :: tmpsO r
  | _ :: r => tmpsO r
def tmpsOf (op : Op) : List Nat := match op with
  | .call c => (match c.callee with | .value f => tmpsO [f] | _ => []) ++ tmpsO c.args.toList
  | op => tmpsO op.operands.toList
def refsE (e : List (Nat × V)) : List Nat := refsL (e.map (·.2))
def refsM (mem : List (Nat × AO)) (l : List Nat) : List Nat := l.flatMap fun s => match look s mem with
  | some o => o.refs
  | none => []
def dedup : List Nat → List Nat → List Nat
  | acc, [] => acc
  | acc, s :: r => if acc.contains s = true then dedup acc r else dedup (acc ++ [s]) r
/-- What can be come at from the values of e. -/
def reach (mem : List (Nat × AO)) (e : List (Nat × V)) : List Nat :=
  let a := dedup [] (refsE e)
  let b := dedup a (refsM mem a)
  dedup b (refsM mem b)
/-- What an operation may look at: nothing, if it only hands a value on. -/
def memO (op : Op) (mem : List (Nat × AO)) (e : List (Nat × V)) : List (Nat × AO) := match op with
  | .move _ => []
  | .assign _ => []
  | _ => pick mem (reach mem e)
def allLt (n : Nat) (l : List Nat) : Bool := l.all fun s => decide (s < n)
def belowE (n : Nat) : List (Nat × V) → Bool
  | [] => true
  | (_, v) :: r => allLt n v.refs && belowE n r
def belowM (n : Nat) : List (Nat × AO) → Bool
  | [] => true
  | (s, o) :: r => decide (s < n) && allLt n o.refs && belowM n r
def new (a m : List (Nat × AO)) : List (Nat × AO) := a.take (a.length - m.length)
structure CallD (P : Program) (f : FuncId) (vs : List V) (m : List (Nat × AO)) (nx : Nat) (K : V → List (Nat × AO) → Prop) : Prop where
  run : ∃ r u, CallK P f vs m nx (fun r' m' n' => r' = r ∧ (∀ s x, look s (u ++ m) = some x → look s m' = some x) ∧ n' ≤ nx + 1) ∧ K r u
def drNext (dst : Option Nat) (e : List (Nat × V)) (m : List (Nat × AO)) (done : List Chk) (st : St) (K : List Chk → St → Prop) (v : Option V) (u : List (Nat × AO)) : Prop :=
  match dst, v with
  | some d, some v => d < st.nt ∧ K (done ++ [⟨keysL e, [d], keysL m, keysL u⟩]) ⟨(d, v) :: st.env, u ++ st.mem, st.nx + 1, st.nt⟩
  | none, _ => K (done ++ [⟨keysL e, [], keysL m, keysL u⟩]) ⟨st.env, u ++ st.mem, st.nx + 1, st.nt⟩
  | some _, none => False
def drR (dst : Option Nat) (e : List (Nat × V)) (m : List (Nat × AO)) (done : List Chk) (st : St) (K : List Chk → St → Prop) (v : V) (u : List (Nat × AO)) : Prop := drNext dst e m done st K (some v) u
def drOp (P : Program) (o : Oper) (e : List (Nat × V)) (m : List (Nat × AO)) (done : List Chk) (st : St) (K : List Chk → St → Prop) : Prop :=
  match evO P e m st.nx o.op with
  | some out => out.nx ≤ st.nx + 1 ∧ drNext o.dst e m done st K out.v (new out.mem m)
  | none => False
def drEv (P : Program) (o : Oper) (e : List (Nat × V)) (m : List (Nat × AO)) (done : List Chk) (st : St) (K : List Chk → St → Prop) : Prop :=
  match o.op with
  | .call c => match c.callee with
    | .value f => match valO e f, valL e c.args.toList with
      | some (.fn f caps), some vs => CallD P f (vs ++ caps) m st.nx (drR o.dst e m done st K)
      | _, _ => False
    | _ => drOp P o e m done st K
  | _ => drOp P o e m done st K
def drStep (P : Program) (o : Oper) (e : List (Nat × V)) (done : List Chk) (st : St) (K : List Chk → St → Prop) : Prop :=
  belowE st.nx e = true ∧ belowM st.nx (memO o.op st.mem e) = true ∧ drEv P o e (memO o.op st.mem e) done st K
def drSkip (o : Oper) (e : List (Nat × V)) (done : List Chk) (st : St) (K : List Chk → St → Prop) : Prop := drNext o.dst e [] done st K (some (.tup [])) []
def drGo (P : Program) (all : List Oper) (K : St → Prop) : List Oper → List Chk → St → Prop
  | [], done, st => (chkOk (ancGo all []) [] done = true ∧ backGo all 0 = true) ∧ K st
  | o :: r, done, st =>
    match o.guard with
    | none => drStep P o (pick st.env (tmpsOf o.op)) done st (drGo P all K r)
    | some (j, want) => match guardD all j with
      | some d => match look d st.env with
        | some (.bool b) => (b = want → drStep P o ((d, .bool want) :: pick st.env (tmpsOf o.op)) done (st.set d (.bool want)) (drGo P all K r)) ∧
            (b = !want → drSkip o [(d, .bool !want)] done (st.set d (.bool !want)) (drGo P all K r))
        | some (.tup []) => drSkip o [(d, .tup [])] done st (drGo P all K r)
        | _ => False
      | none => False
def drawsP (P : Program) (ops : List Oper) (K : St → Prop) (st : St) : Prop := drGo P ops K ops [] st
section
variable {P : Program} {B : Base}
theorem look_pick {α : Type} {env : List (Nat × α)} {t : Nat} {x : α} : ∀ {l : List Nat}, look t (pick env l) = some x → look t env = some x
  | [], h => by simp [pick, look] at h
  | s :: r, h => by
    unfold pick at h
    split at h
    · rename_i v hv
      rw [look_cons] at h
      split at h
      · rename_i e; subst e; rw [hv]; exact h
      · exact look_pick h
    · exact look_pick h
theorem look_memO {op : Op} {mem : List (Nat × AO)} {e : List (Nat × V)} {t : Nat} {x : AO} (h : look t (memO op mem e) = some x) : look t mem = some x := by
  unfold memO at h
  split at h
  · simp [look] at h
  · simp [look] at h
  · exact look_pick h
theorem mem_of_look {α : Type} {t : Nat} {x : α} : ∀ {l : List (Nat × α)}, look t l = some x → (t, x) ∈ l
  | [], h => by simp [look] at h
  | (i, y) :: r, h => by
    rw [look_cons] at h
    split at h
    · rename_i e; subst e; cases h; simp
    · exact List.mem_cons_of_mem _ (mem_of_look h)
theorem allLt_ok {n : Nat} {l : List Nat} (h : allLt n l = true) : ∀ k ∈ l, k < n := fun k hk => by
  unfold allLt at h
  exact of_decide_eq_true (List.all_eq_true.1 h k hk)
theorem belowE_ok {n : Nat} : ∀ {e : List (Nat × V)}, belowE n e = true → ∀ t x, (t, x) ∈ e → ∀ k ∈ x.refs, k < n
  | (t', v) :: r, h, t, x, hm, k, hk => by
    simp only [belowE, Bool.and_eq_true] at h
    rcases List.mem_cons.1 hm with he | he
    · cases he; exact allLt_ok h.1 k hk
    · exact belowE_ok h.2 t x he k hk
theorem belowM_ok {n : Nat} : ∀ {m : List (Nat × AO)}, belowM n m = true → ∀ s o, (s, o) ∈ m → s < n ∧ ∀ k ∈ o.refs, k < n
  | (s', o') :: r, h, s, o, hm => by
    simp only [belowM, Bool.and_eq_true, decide_eq_true_eq] at h
    rcases List.mem_cons.1 hm with he | he
    · cases he; exact ⟨h.1.1, allLt_ok h.1.2⟩
    · exact belowM_ok h.2 s o he
theorem new_append (u m : List (Nat × AO)) : new (u ++ m) m = u := by
  unfold new
  simp
theorem frS_new (s : Nat) (m : List (Nat × AO)) : ∃ u, frS s m = u ++ m := by
  unfold frS
  split
  · exact ⟨[], rfl⟩
  · exact ⟨[_], rfl⟩
  · exact ⟨[], rfl⟩
theorem boxM_new {T : TypeId} {v : V} {m : List (Nat × AO)} {nx : Nat} {out : Out} (h : boxM T v m nx = some out) : ∃ u, out.mem = u ++ m := by
  unfold boxM at h
  split at h
  · cases h; exact ⟨[_], rfl⟩
  · cases h
theorem storeM_new {T : TypeId} {p v : V} {m : List (Nat × AO)} {nx : Nat} {out : Out} (h : storeM P T p v m nx = some out) : ∃ u, out.mem = u ++ m := by
  unfold storeM at h
  repeat' split at h
  all_goals first
    | (cases h; exact ⟨[_], rfl⟩)
    | cases h
theorem bsM_new {T : TypeId} {n : Nat} {ps : List (Nat × V)} {m : List (Nat × AO)} {nx : Nat} {out : Out} (h : bsM P T n ps m nx = some out) : ∃ u, out.mem = u ++ m := by
  unfold bsM at h
  repeat' split at h
  all_goals first
    | (cases h; exact ⟨[_], rfl⟩)
    | cases h
theorem frLs_new : ∀ (cs : List V) (m : List (Nat × AO)), ∃ u, frLs m cs = u ++ m
  | [], m => ⟨[], rfl⟩
  | v :: r, m => by
    unfold frLs
    split
    · rename_i heq; cases heq
    · rename_i s r' heq
      cases heq
      split
      · obtain ⟨a, ha⟩ := frS_new s m
        obtain ⟨b, hb⟩ := frLs_new r (frS s m)
        exact ⟨b ++ a, by rw [hb, ha, List.append_assoc]⟩
      · exact frLs_new r m
    · rename_i v' r' _ heq
      cases heq
      exact frLs_new r m
theorem frSt_new (v a : V) (m : List (Nat × AO)) : ∃ u, frSt m v a = u ++ m := by
  unfold frSt
  split
  · exact frLs_new v.cells m
  · exact ⟨[], rfl⟩
theorem frBs_new : ∀ (ps : List (Nat × V)) (m : List (Nat × AO)), ∃ u, frBs m ps = u ++ m
  | [], m => ⟨[], rfl⟩
  | p :: r, m => by
    obtain ⟨a, ha⟩ := frLs_new p.2.cells m
    obtain ⟨b, hb⟩ := frBs_new r (frLs m p.2.cells)
    exact ⟨b ++ a, by rw [frBs, hb, ha, List.append_assoc]⟩
theorem mkM_new {T : TypeId} {l c : Int} {m : List (Nat × AO)} {nx : Nat} {out : Out} (h : mkM P T l c m nx = some out) : ∃ u, out.mem = u ++ m := by
  unfold mkM at h
  repeat' split at h
  all_goals first
    | (cases h; exact ⟨[_], rfl⟩)
    | cases h
theorem sbM_new {s d : TypeId} {t : ByteArray} {m : List (Nat × AO)} {nx : Nat} {out : Out} (h : sbM P s d t m nx = some out) : ∃ u, out.mem = u ++ m := by
  unfold sbM at h
  repeat' split at h
  all_goals first
    | (cases h; exact ⟨[], rfl⟩)
    | cases h
theorem bsV_new {s d : TypeId} {v : V} {m : List (Nat × AO)} {nx : Nat} {out : Out} (h : bsV P s d v m nx = some out) : ∃ u, out.mem = u ++ m := by
  unfold bsV at h
  repeat' split at h
  all_goals first
    | (cases h; exact ⟨[], rfl⟩)
    | cases h
theorem apM_new {T T' : TypeId} {b s : V} {m : List (Nat × AO)} {nx : Nat} {out : Out} (h : apM P T T' b s m nx = some out) : ∃ u, out.mem = u ++ m := by
  unfold apM at h
  repeat' split at h
  all_goals first
    | (cases h; exact ⟨[_], rfl⟩)
    | (cases h; exact ⟨[_, _], rfl⟩)
    | (cases h; exact ⟨[], rfl⟩)
    | cases h
theorem evO_new {e : List (Nat × V)} {m : List (Nat × AO)} {nx : Nat} {op : Op} {out : Out} (h : evO P e m nx op = some out) : ∃ u, out.mem = u ++ m := by
  unfold evO at h
  split at h
  · cases h; exact ⟨[], rfl⟩
  · unfold evM at h
    split at h
    · split at h
      · exact boxM_new h
      · cases h
    · split at h
      · exact boxM_new h
      · cases h
    · split at h
      · obtain ⟨a, ha⟩ := storeM_new h
        obtain ⟨b, hb⟩ := frSt_new _ _ m
        exact ⟨a ++ b, by rw [ha, hb, List.append_assoc]⟩
      · cases h
    · split at h
      · obtain ⟨a, ha⟩ := bsM_new h
        obtain ⟨b, hb⟩ := frBs_new _ m
        exact ⟨a ++ b, by rw [ha, hb, List.append_assoc]⟩
      · cases h
    · split at h
      · exact mkM_new h
      · cases h
    · split at h
      · exact sbM_new h
      · exact bsV_new h
      · cases h
    · split at h
      · split at h
        · split at h
          · cases h
          · obtain ⟨v, _, rfl⟩ := Option.map_eq_some_iff.1 h
            exact frS_new _ _
        · cases h
      · split at h
        · split at h
          · split at h
            · cases h; exact frS_new _ _
            · cases h
          · cases h
        · cases h
      · cases h
    · split at h
      · exact apM_new h
      · cases h
    · exact mpM_new h
theorem frA_new : ∀ (vs : List V) (m : List (Nat × AO)), ∃ u, frA m vs = u ++ m := by
  have h1 : ∀ (m : List (Nat × AO)) (v : V), ∃ u, fr1 m v = u ++ m := by
    intro m v
    unfold fr1
    split
    · split
      · exact frS_new _ _
      · exact ⟨[], rfl⟩
    · exact ⟨[], rfl⟩
  have h2 : ∀ (cs : List V) (m : List (Nat × AO)), ∃ u, frC m cs = u ++ m := by
    intro cs
    induction cs with
    | nil => exact fun m => ⟨[], rfl⟩
    | cons a r ih =>
      intro m
      obtain ⟨u1, e1⟩ := h1 m a
      obtain ⟨u2, e2⟩ := ih (fr1 m a)
      exact ⟨u2 ++ u1, by rw [frC, e2, e1, List.append_assoc]⟩
  intro vs
  induction vs with
  | nil => exact fun m => ⟨[], rfl⟩
  | cons a r ih =>
    intro m
    obtain ⟨u1, e1⟩ := h2 a.cells m
    obtain ⟨u2, e2⟩ := ih (frV m a)
    exact ⟨u2 ++ u1, by rw [frA, e2, frV, e1, List.append_assoc]⟩
/-- A call of a function that only computes, amid others. -/
theorem callD_pure {f : FuncId} {vs args : List V} {r : V} {m : List (Nat × AO)} {nx : Nat} {dst : Option Nat} {e : List (Nat × V)} {m0 : List (Nat × AO)} {done : List Chk} {st : St} {K : List Chk → St → Prop} (hp : Pure P f args r) (ha : purA (frA m vs) vs = some args) (hk : drNext dst e m0 done st K (some r) (if flat r = true then [] else new (frA m vs) m)) : CallD P f vs m nx (drR dst e m0 done st K) := by
  refine ⟨r, if flat r = true then [] else new (frA m vs) m, callK_pure hp ha ⟨rfl, fun s x hx => ?_, Nat.le_succ _⟩, hk⟩
  split
  · rename_i h; rw [if_pos h] at hx; exact hx
  · rename_i h; rw [if_neg h] at hx
    obtain ⟨u, hu⟩ := frA_new vs m
    rw [hu, new_append] at hx
    rw [hu]; exact hx
theorem drNext_ok {dst : Option Nat} {e : List (Nat × V)} {m : List (Nat × AO)} {done : List Chk} {st : St} {K : List Chk → St → Prop} {v : Option V} {u : List (Nat × AO)} (h : drNext dst e m done st K v u) :
    ∃ w, ((∃ d x, dst = some d ∧ w = [(d, x)] ∧ v = some x ∧ d < st.nt) ∨ (dst = none ∧ w = [])) ∧ K (done ++ [⟨keysL e, keysL w, keysL m, keysL u⟩]) ⟨w ++ st.env, u ++ st.mem, st.nx + 1, st.nt⟩ := by
  unfold drNext at h
  split at h
  · rename_i d x
    exact ⟨[(d, x)], .inl ⟨d, x, rfl, rfl, rfl, h.1⟩, h.2⟩
  · exact ⟨[], .inr ⟨rfl, rfl⟩, h⟩
  · exact h.elim
theorem putK_of {dst : Option Nat} {e : List (Nat × V)} {mem' : List (Nat × AO)} {nx nx' nt : Nat} {v : Option V} {w : List (Nat × V)} {m u mm : List (Nat × AO)} (hw : (∃ d x, dst = some d ∧ w = [(d, x)] ∧ v = some x ∧ d < nt) ∨ (dst = none ∧ w = []))
    (hm : ∀ s x, look s (u ++ m) = some x → look s mem' = some x) (hn : nx' ≤ nx + 1) : putK ⟨e, mm, nx, nt⟩ dst v mem' nx' (fun s => (∀ t x, look t (w ++ e) = some x → look t s.env = some x) ∧ (∀ q x, look q (u ++ m) = some x → look q s.mem = some x) ∧ s.nx ≤ nx + 1 ∧ s.nt = nt) := by
  rcases hw with ⟨d, x, rfl, rfl, rfl, hd⟩ | ⟨rfl, rfl⟩
  · exact ⟨hd, fun t x h => h, hm, hn, rfl⟩
  · unfold putK
    exact ⟨fun t x h => h, hm, hn, rfl⟩
theorem drEv_ok {o : Oper} {e : List (Nat × V)} {m : List (Nat × AO)} {done : List Chk} {st : St} {K : List Chk → St → Prop} (h : drEv P o e m done st K) :
    ∃ w u, stepK P o ⟨e, m, st.nx, st.nt⟩ (fun s => (∀ t x, look t (w ++ e) = some x → look t s.env = some x) ∧ (∀ q x, look q (u ++ m) = some x → look q s.mem = some x) ∧ s.nx ≤ st.nx + 1 ∧ s.nt = st.nt) ∧
      ((∃ d x, o.dst = some d ∧ w = [(d, x)]) ∨ (o.dst = none ∧ w = [])) ∧ K (done ++ [⟨keysL e, keysL w, keysL m, keysL u⟩]) ⟨w ++ st.env, u ++ st.mem, st.nx + 1, st.nt⟩ := by
  have weak : ∀ {w : List (Nat × V)} {v : Option V}, ((∃ d x, o.dst = some d ∧ w = [(d, x)] ∧ v = some x ∧ d < st.nt) ∨ (o.dst = none ∧ w = [])) → ((∃ d x, o.dst = some d ∧ w = [(d, x)]) ∨ (o.dst = none ∧ w = [])) :=
    fun h => h.imp (fun ⟨d, x, a, b, _⟩ => ⟨d, x, a, b⟩) id
  have op : drOp P o e m done st K → ∃ w u, opK P o ⟨e, m, st.nx, st.nt⟩ (fun s => (∀ t x, look t (w ++ e) = some x → look t s.env = some x) ∧ (∀ q x, look q (u ++ m) = some x → look q s.mem = some x) ∧ s.nx ≤ st.nx + 1 ∧ s.nt = st.nt) ∧
      ((∃ d x, o.dst = some d ∧ w = [(d, x)]) ∨ (o.dst = none ∧ w = [])) ∧ K (done ++ [⟨keysL e, keysL w, keysL m, keysL u⟩]) ⟨w ++ st.env, u ++ st.mem, st.nx + 1, st.nt⟩ := by
    intro h
    unfold drOp at h
    split at h
    · rename_i out hout
      obtain ⟨w, hw, hk⟩ := drNext_ok h.2
      obtain ⟨u, hu⟩ := evO_new hout
      rw [hu, new_append] at hk
      refine ⟨w, u, ?_, weak hw, hk⟩
      unfold opK
      simp only [hout]
      exact putK_of hw (fun s x hx => by rw [hu]; exact hx) h.1
    · exact h.elim
  unfold drEv at h
  unfold stepK
  split at h
  · rename_i c hop
    split at h
    · rename_i f hf
      split at h
      · rename_i g caps vs h1 h2
        obtain ⟨⟨r, u, hc, hk⟩⟩ := h
        obtain ⟨w, hw, hk⟩ := drNext_ok hk
        refine ⟨w, u, ?_, weak hw, hk⟩
        simp only [hop, callK, hf, h1, h2]
        refine hc.mono ?_
        rintro r' m' n' ⟨rfl, hm, hn⟩
        exact putK_of hw hm hn
      · exact h.elim
    · rename_i hcal
      obtain ⟨w, u, a, b, c⟩ := op h
      refine ⟨w, u, ?_, b, c⟩
      simp only [hop]
      first
        | exact opN_of a
        | (split
           · rename_i f hf; exact (hcal f hf).elim
           · exact opN_of a)
  · rename_i hop
    obtain ⟨w, u, a, b, c⟩ := op h
    refine ⟨w, u, ?_, b, c⟩
    split
    · rename_i x hx; exact (hop x hx).elim
    · exact opN_of a
theorem fold_ext {α : Type} {u u' : Nat → List (Nat × α)} {L : Nat → Bool} {base : List (Nat × α)} : ∀ {n : Nat}, (∀ k, k < n → u k = u' k) → fold u L base n = fold u' L base n
  | 0, _ => rfl
  | n + 1, h => by unfold fold; rw [h n (by omega), fold_ext fun k hk => h k (by omega)]
/-- The first i, told. -/
structure Tel (P : Program) (ops : List Oper) (s0 : St) (evs : Nat → Ev) (cs : List Chk) (i : Nat) (st : St) : Prop where
  ev : ∀ k o, k < i → ops[k]? = some o → EvOk P ops s0.nx s0.nt k o (evs k)
  ee : ∀ k t x, k < i → look t (evs k).e = some x → look t (fold (fun k => (evs k).w) (fun _ => true) s0.env k) = some x
  em : ∀ k s x, k < i → look s (evs k).m = some x → look s (fold (fun k => (evs k).u) (fun _ => true) s0.mem k) = some x
  chk : ∀ k, k < i → ∃ c, cs[k]? = some c ∧ ChkOf c (evs k)
  env : ∀ t, look t st.env = look t (fold (fun k => (evs k).w) (fun _ => true) s0.env i)
  mem : ∀ t, look t st.mem = look t (fold (fun k => (evs k).u) (fun _ => true) s0.mem i)
  nx : st.nx = s0.nx + i
  nt : st.nt = s0.nt
  len : cs.length = i
theorem chkOf_keys (v : Ev) : ChkOf ⟨keysL v.e, keysL v.w, keysL v.m, keysL v.u⟩ v :=
  ⟨fun t h => look_key.1 h, fun t h => look_key.1 h, fun t h => look_key.1 h, fun t h => look_key.1 h⟩
theorem Tel.step {ops : List Oper} {s0 st : St} {evs : Nat → Ev} {cs : List Chk} {i : Nat} {o : Oper} (T : Tel P ops s0 evs cs i st) (ho : ops[i]? = some o) {v : Ev} (hv : EvOk P ops s0.nx s0.nt i o v)
    (he : ∀ t x, look t v.e = some x → look t st.env = some x) (hm : ∀ t x, look t v.m = some x → look t st.mem = some x) {st' : St} (h1 : ∀ t, look t st'.env = look t (v.w ++ st.env)) (h2 : ∀ t, look t st'.mem = look t (v.u ++ st.mem)) (h3 : st'.nx = st.nx + 1) (h4 : st'.nt = st.nt) :
    Tel P ops s0 (fun k => if k = i then v else evs k) (cs ++ [⟨keysL v.e, keysL v.w, keysL v.m, keysL v.u⟩]) (i + 1) st' := by
  have fe : ∀ k, k ≤ i → fold (fun k => (if k = i then v else evs k).w) (fun _ => true) s0.env k = fold (fun k => (evs k).w) (fun _ => true) s0.env k := fun k hk => fold_ext fun j hj => by
    have : j ≠ i := by omega
    simp [this]
  have fm : ∀ k, k ≤ i → fold (fun k => (if k = i then v else evs k).u) (fun _ => true) s0.mem k = fold (fun k => (evs k).u) (fun _ => true) s0.mem k := fun k hk => fold_ext fun j hj => by
    have : j ≠ i := by omega
    simp [this]
  refine ⟨fun k o' hk ho' => ?_, fun k t x hk hx => ?_, fun k t x hk hx => ?_, fun k hk => ?_, fun t => ?_, fun t => ?_, by rw [h3, T.nx]; omega, by rw [h4, T.nt], by simp [T.len]⟩
  · by_cases hki : k = i
    · subst hki; rw [ho] at ho'; cases ho'; simpa using hv
    · simpa [hki] using T.ev k o' (by omega) ho'
  · rw [fe k (by omega)]
    by_cases hki : k = i
    · subst hki
      rw [← T.env t]
      exact he t x (by simpa using hx)
    · exact T.ee k t x (by omega) (by simpa [hki] using hx)
  · rw [fm k (by omega)]
    by_cases hki : k = i
    · subst hki
      rw [← T.mem t]
      exact hm t x (by simpa using hx)
    · exact T.em k t x (by omega) (by simpa [hki] using hx)
  · by_cases hki : k = i
    · subst hki
      refine ⟨⟨keysL v.e, keysL v.w, keysL v.m, keysL v.u⟩, by rw [List.getElem?_append_right (by rw [T.len]; exact Nat.le_refl _), T.len]; simp, ?_⟩
      simpa using chkOf_keys v
    · obtain ⟨c, hc, hc2⟩ := T.chk k (by omega)
      refine ⟨c, by rw [List.getElem?_append_left (by rw [T.len]; omega)]; exact hc, by simpa [hki] using hc2⟩
  · rw [h1, look_append]
    show _ = look t (if true = true then _ ++ fold _ _ _ i else _)
    rw [if_pos rfl, look_append, fe i (Nat.le_refl _), ← T.env t]
    simp
  · rw [h2, look_append]
    show _ = look t (if true = true then _ ++ fold _ _ _ i else _)
    rw [if_pos rfl, look_append, fm i (Nat.le_refl _), ← T.mem t]
    simp
theorem drGo_ok {all : List Oper} {K : St → Prop} {s0 : St} : ∀ (r : List Oper) (done : List Chk) (st : St) (evs : Nat → Ev) (i : Nat), i + r.length = all.length → (∀ k, r[k]? = all[i + k]?) → Tel P all s0 evs done i st → drGo P all K r done st →
    ∃ evs cs st', Tel P all s0 evs cs all.length st' ∧ chkOk (ancGo all []) [] cs = true ∧ backGo all 0 = true ∧ K st'
  | [], done, st, evs, i, hl, hr, T, h => by
    simp at hl
    subst hl
    exact ⟨evs, done, st, T, h.1.1, h.1.2, h.2⟩
  | o :: r, done, st, evs, i, hl, hr, T, h => by
    have ho : all[i]? = some o := by have := hr 0; simpa using this.symm
    have hr' : ∀ k, r[k]? = all[i + 1 + k]? := fun k => by have := hr (k + 1); rw [show i + 1 + k = i + (k + 1) from by omega]; simpa using this
    have hl' : i + 1 + r.length = all.length := by simp at hl; omega
    have ih : ∀ (done : List Chk) (st : St) (evs : Nat → Ev), Tel P all s0 evs done (i + 1) st → drGo P all K r done st → _ := fun done st evs => drGo_ok r done st evs (i + 1) hl' hr'
    have step : ∀ (e : List (Nat × V)) (st1 : St) (hsame : (∀ t, look t st1.env = look t st.env) ∧ st1.mem = st.mem ∧ st1.nx = st.nx ∧ st1.nt = st.nt) (hg : o.guard = none ∨ ∃ j want d, o.guard = some (j, want) ∧ guardD all j = some d ∧ look d e = some (.bool want)),
        (∀ t x, look t e = some x → look t st.env = some x) → drStep P o e done st1 (drGo P all K r) → ∃ evs cs st', Tel P all s0 evs cs all.length st' ∧ chkOk (ancGo all []) [] cs = true ∧ backGo all 0 = true ∧ K st' := by
      intro e st1 ⟨q1, q2, q3, q4⟩ hg he ⟨b1, b2, hd⟩
      obtain ⟨w, u, s1, s2, s3⟩ := drEv_ok hd
      rw [q3, T.nx] at b1 b2
      refine ih _ _ _ (T.step (v := ⟨[], e, memO o.op st1.mem e, w, u⟩) ho ⟨fun s o' hs => belowM_ok b2 s o' (mem_of_look hs), fun t x hx => belowE_ok b1 t x (mem_of_look hx), .inl ⟨by rw [q3, T.nx, q4, T.nt] at s1; exact s1, hg⟩, s2⟩ he
        (fun t x hx => by rw [← q2]; exact look_memO hx) (fun t => ?_) (fun t => ?_) ?_ ?_) s3
      · rw [look_append, look_append, q1]
      · rw [look_append, look_append, q2]
      · show st1.nx + 1 = _; rw [q3]
      · exact q4
    have skip : ∀ (e : List (Nat × V)) (st1 : St) (hsame : (∀ t, look t st1.env = look t st.env) ∧ st1.mem = st.mem ∧ st1.nx = st.nx ∧ st1.nt = st.nt) (hg : ∃ j want d, o.guard = some (j, want) ∧ guardD all j = some d ∧ (look d e = some (.bool !want) ∨ look d e = some (.tup []))) (hb : ∀ t x, look t e = some x → x.refs = []),
        (∀ t x, look t e = some x → look t st.env = some x) → drSkip o e done st1 (drGo P all K r) → ∃ evs cs st', Tel P all s0 evs cs all.length st' ∧ chkOk (ancGo all []) [] cs = true ∧ backGo all 0 = true ∧ K st' := by
      intro e st1 ⟨q1, q2, q3, q4⟩ hg hb he hd
      obtain ⟨w, hw, hk⟩ := drNext_ok hd
      refine ih _ _ _ (T.step (v := ⟨[], e, [], w, []⟩) ho ⟨fun s o' hs => by simp [look] at hs, fun t x hx => by rw [hb t x hx]; simp, .inr ⟨rfl, fun d x hwx => ?_, hg⟩, ?_⟩ he
        (fun t x hx => by simp [look] at hx) (fun t => ?_) (fun t => ?_) ?_ ?_) hk
      · rcases hw with ⟨d', x', _, rfl, hx', hlt⟩ | ⟨_, rfl⟩
        · cases hwx; cases hx'; exact ⟨by rw [← T.nt, ← q4]; exact hlt, rfl⟩
        · cases hwx
      · rcases hw with ⟨d', x', a, b, _⟩ | ⟨a, b⟩
        · exact .inl ⟨d', x', a, b⟩
        · exact .inr ⟨a, b⟩
      · rw [look_append, look_append, q1]
      · simp [q2]
      · show st1.nx + 1 = _; rw [q3]
      · exact q4
    have hset : ∀ {d : Nat} {b c : Bool}, look d st.env = some (.bool b) → b = c → (∀ t, look t (st.set d (.bool c)).env = look t st.env) ∧ (st.set d (.bool c)).mem = st.mem ∧ (st.set d (.bool c)).nx = st.nx ∧ (st.set d (.bool c)).nt = st.nt := by
      intro d b c hb hbc
      subst hbc
      refine ⟨fun t => ?_, rfl, rfl, rfl⟩
      simp only [St.set, look_cons]
      split
      · rename_i e; subst e; exact hb.symm
      · rfl
    unfold drGo at h
    split at h
    · rename_i hg
      exact step _ st ⟨fun _ => rfl, rfl, rfl, rfl⟩ (.inl hg) (fun t x hx => look_pick hx) h
    · rename_i j want hg
      split at h
      case h_2 => exact h.elim
      rename_i d hgd
      split at h
      · rename_i b hb
        by_cases hbw : b = want
        · refine step _ _ (hset hb hbw) (.inr ⟨j, want, d, hg, hgd, by simp [look]⟩) (fun t x hx => ?_) (h.1 hbw)
          rw [look_cons] at hx
          split at hx
          · rename_i e; subst e; cases hx; rw [hb, hbw]
          · exact look_pick hx
        · have hbn : b = !want := by cases b <;> cases want <;> simp_all
          refine skip _ _ (hset hb hbn) ⟨j, want, d, hg, hgd, .inl (by simp [look])⟩ (fun t x hx => ?_) (fun t x hx => ?_) (h.2 hbn)
          · rw [look_cons, look_nil] at hx
            split at hx
            · cases hx; rfl
            · cases hx
          · rw [look_cons, look_nil] at hx
            split at hx
            · rename_i e; subst e; cases hx; rw [hb, hbn]
            · cases hx
      · rename_i hb
        refine skip _ st ⟨fun _ => rfl, rfl, rfl, rfl⟩ ⟨j, want, d, hg, hgd, .inr (by simp [look])⟩ (fun t x hx => ?_) (fun t x hx => ?_) h
        · rw [look_cons, look_nil] at hx
          split at hx
          · cases hx; rfl
          · cases hx
        · rw [look_cons, look_nil] at hx
          split at hx
          · rename_i e; subst e; cases hx; exact hb
          · cases hx
      · exact h.elim
theorem Sat.wide {H : Imm} {φ : Nat → Option Value} {m : List (Nat × AO)} {n n' : Nat} {w : World} (S : Sat B H φ m n w) (h : n ≤ n') : Sat B H φ m n' w :=
  ⟨S.imm, S.obj, fun s hs => S.new s (by omega), S.exc, S.sep, S.os, S.tape, S.output, S.size, S.kept, S.him, S.hne, Nat.le_trans S.fix.1 h, S.fix.2⟩
theorem drawsP_ok (hm : P.follows .mixedOrders = true) : DrawsOk P (drawsP P) := by
  intro B id ops K Q st a w h hs hK
  obtain ⟨ops⟩ := ops
  obtain ⟨evs, cs, st', T, hc, hb, hk⟩ := drGo_ok (s0 := st) ops [] st (fun _ => ⟨[], [], [], [], []⟩) 0 (by simp) (fun k => by simp) ⟨fun k o hk => by omega, fun k t x hk => by omega, fun k s x hk => by omega, fun k hk => by omega, fun t => rfl, fun t => rfl, rfl, rfl, rfl⟩ h
  have TT : Told P ops st evs cs := ⟨fun i o ho => T.ev i o (List.getElem?_eq_some_iff.1 ho).1 ho, fun i t x hi => T.ee i t x hi, fun i s x hi => T.em i s x hi, fun i hi => T.chk i hi⟩
  refine wp_region_any hm ?_
  obtain ⟨H, φ, h1, h2, h3, S⟩ := hs
  refine sched (B := B) TT hb hc (fun a' w' hr => ?_) _ _ _ _ (by simp) ?_ (fun i o ho hL => ?_) ?_
  · obtain ⟨_, H', φ', g1, g2, g3, g4, _⟩ := hr
    refine hK st' a' w' ⟨H', φ', g1, by rw [g2, T.nt], fun t x hx => g3 t x (by rw [← T.env t]; exact hx), ?_⟩ hk
    rw [T.nx]
    exact g4.fewer fun s x hx => by rw [← T.mem s]; exact hx
  · rw [cntF_none fun k hk => by simp [Array.getD_eq_getD_getElem?, hk]]
    simp
  · have hi := (List.getElem?_eq_some_iff.1 ho).1
    simp [Array.getD_eq_getD_getElem?, hi] at hL
  · refine ⟨S.fix.1, H, φ, h1, h2, ?_, ?_, fun k hk _ => S.new _ (by omega)⟩
    · rw [fold_none fun k => by rw [Array.getD_eq_getD_getElem?, Array.getElem?_replicate]; split <;> rfl]
      exact h3
    · rw [fold_none fun k => by rw [Array.getD_eq_getD_getElem?, Array.getElem?_replicate]; split <;> rfl]
      exact (S.grown (w' := { w with drawn := w.drawn + 1 }) ⟨rfl, rfl, rfl, Nat.le_refl _, fun _ _ _ => rfl⟩).wide (by omega)
end
end Go.Proofs.Ytalkadbpdaoifaa.AX
/- Rules for drawn regions; equality by leaves. -/
namespace Go.Proofs.Ytalkadbpdaoifaa.AX
open Go Go.RowKit
set_option linter.unusedVariables false
set_option linter.unusedSimpArgs false
inductive LK where
  | b
  | i (k : IntKind)
  | s
  deriving DecidableEq, Repr
/-- What a comparable type's cells are, one by one. -/
def shapeF (g : TypeId → Option (List LK)) (sz : TypeId → Option Nat) : Nat → List Field → Option (List LK)
  | _, [] => some []
  | o, f :: r => match g f.type, shapeF g sz (o + (g f.type).elim 0 (·.length)) r with
    | some l, some m => if f.name ≠ "_" ∧ f.offset = o ∧ sz f.type = some l.length then some (l ++ m) else none
    | _, _ => none
def repK (l : List LK) : Nat → List LK
  | 0 => []
  | n + 1 => l ++ repK l n
def shapeT (P : Program) : Nat → TypeId → Option (List LK)
  | 0, _ => none
  | d + 1, T => match P.underlying T with
    | some .bool => some [.b]
    | some (.int k) => some [.i k]
    | some .string => some [.s]
    | some (.struct fs) => if P.stoodInHeld T then none else shapeF (shapeT P d) (sizeT P) 0 fs.toList
    | some (.array n e) => match shapeT P d e with
      | some l => if sizeT P e = some l.length then some (repK l n) else none
      | none => none
    | _ => none
def eqC : LK → V → V → Option Bool
  | .b, .bool a, .bool b => some (a == b)
  | .i _, .int k a, .int k' b => if k = k' then some (decide (a = b)) else none
  | .s, .str a, .str b => some (decide (a = b))
  | _, _, _ => none
def eqK : List LK → List V → List V → Option Bool
  | [], _, _ => some true
  | k :: ks, x :: xs, y :: ys => (eqC k x y).bind fun b => (eqK ks xs ys).map (b && ·)
  | _ :: _, _, _ => none
theorem eqK_append : ∀ (l m : List LK) (xs ys : List V), l.length ≤ xs.length → l.length ≤ ys.length → eqK (l ++ m) xs ys = (eqK l (xs.take l.length) (ys.take l.length)).bind fun b => (eqK m (xs.drop l.length) (ys.drop l.length)).map (b && ·)
  | [], m, xs, ys, _, _ => by
    simp only [List.nil_append, List.length_nil, List.take_zero, List.drop_zero, eqK, Option.bind_some, Bool.true_and]
    cases eqK m xs ys <;> rfl
  | k :: l, m, x :: xs, y :: ys, h1, h2 => by
    simp only [List.cons_append, eqK, List.length_cons, List.take_succ_cons, List.drop_succ_cons]
    rw [eqK_append l m xs ys (by simpa using h1) (by simpa using h2)]
    cases eqC k x y <;> simp
    cases eqK l (xs.take l.length) (ys.take l.length) <;> simp
    cases eqK m (xs.drop l.length) (ys.drop l.length) <;> simp [Bool.and_assoc]
  | k :: l, m, [], ys, h1, h2 => by simp at h1
  | k :: l, m, x :: xs, [], h1, h2 => by simp at h2
theorem repK_len (l : List LK) : ∀ n, (repK l n).length = n * l.length
  | 0 => by simp [repK]
  | n + 1 => by simp only [repK, List.length_append, repK_len l n, Nat.succ_mul]; omega
theorem eqAr_eqK {g : List V → List V → Option Bool} {l : List LK} (hg : ∀ xs ys : List V, xs.length = l.length → ys.length = l.length → g xs ys = eqK l xs ys) : ∀ (n i : Nat) (xs ys : List V), (i + n) * l.length ≤ xs.length → (i + n) * l.length ≤ ys.length →
    eqAr g l.length xs ys i n = eqK (repK l n) (xs.drop (i * l.length)) (ys.drop (i * l.length))
  | 0, i, xs, ys, _, _ => by simp [eqAr, repK, eqK]
  | n + 1, i, xs, ys, h1, h2 => by
    have e : (i + (n + 1)) * l.length = i * l.length + l.length + n * l.length := by
      rw [Nat.add_mul, Nat.add_mul]; omega
    have e1 : (i + 1) * l.length = i * l.length + l.length := by rw [Nat.add_mul]; omega
    rw [e] at h1 h2
    rw [eqAr, repK, eqK_append _ _ _ _ (by simp; omega) (by simp; omega), hg _ _ (by simp; omega) (by simp; omega), eqAr_eqK hg n (i + 1) xs ys (by rw [Nat.add_mul, e1]; omega) (by rw [Nat.add_mul, e1]; omega)]
    rw [List.drop_drop, List.drop_drop, e1]
theorem shapeF_sum {g : TypeId → Option (List LK)} {sz : TypeId → Option Nat} {h : TypeId → List V → List V → Option Bool} (hg : ∀ T l, g T = some l → ∀ xs ys : List V, xs.length = l.length → ys.length = l.length → h T xs ys = eqK l xs ys) : ∀ (fs : List Field) (o : Nat) (l : List LK) (xs ys : List V), shapeF g sz o fs = some l → o + l.length ≤ xs.length → o + l.length ≤ ys.length →
    eqFs h sz xs ys fs = eqK l (xs.drop o) (ys.drop o)
  | [], o, l, xs, ys, hs, h1, h2 => by cases hs; simp [eqFs, eqK]
  | f :: r, o, l, xs, ys, hs, h1, h2 => by
    unfold shapeF at hs
    split at hs
    · rename_i a m ha hm
      split at hs
      · rename_i hc
        cases hs
        obtain ⟨c1, c2, c3⟩ := hc
        rw [ha] at hm
        simp only [Option.elim_some] at hm
        simp only [List.length_append] at h1 h2
        have ih := shapeF_sum hg r _ m xs ys hm (by omega) (by omega)
        rw [eqFs, if_neg c1, c3, c2, ih, eqK_append _ _ _ _ (by simp; omega) (by simp; omega)]
        simp only [Option.bind_some]
        rw [hg f.type a ha _ _ (by simp; omega) (by simp; omega), List.drop_drop, List.drop_drop]
      · cases hs
    · cases hs
theorem eqT_shape {P : Program} : ∀ (d : Nat) (T : TypeId) (l : List LK), shapeT P d T = some l → ∀ xs ys : List V, xs.length = l.length → ys.length = l.length → eqT P d T xs ys = eqK l xs ys
  | 0, T, l, h => by cases h
  | d + 1, T, l, h => by
    intro xs ys hx hy
    unfold shapeT at h
    unfold eqT
    split at h
    · rename_i hu; cases h
      rw [hu]
      match xs, ys, hx, hy with
      | [x], [y], _, _ => cases x <;> cases y <;> simp [eqK, eqC]
    · rename_i k hu; cases h
      rw [hu]
      match xs, ys, hx, hy with
      | [x], [y], _, _ => cases x <;> cases y <;> simp [eqK, eqC]
    · rename_i hu; cases h
      rw [hu]
      match xs, ys, hx, hy with
      | [x], [y], _, _ => cases x <;> cases y <;> simp [eqK, eqC]
    · rename_i fs hu
      rw [hu]
      split at h
      · cases h
      · rename_i hst
        simp only [hst, if_false, Bool.false_eq_true]
        have := shapeF_sum (h := eqT P d) (fun T l hl => eqT_shape d T l hl) fs.toList 0 l xs ys h (by omega) (by omega)
        simpa using this
    · rename_i n e hu
      rw [hu]
      split at h
      · rename_i m hm
        split at h
        · rename_i hz
          cases h
          rw [repK_len] at hx hy
          simp only [hz, Option.bind_some]
          have := eqAr_eqK (l := m) (fun a b => eqT_shape d e m hm a b) n 0 xs ys (by simp; omega) (by simp; omega)
          simpa using this
        · cases h
      · cases h
    · cases h
def doK (x : Option Out) (dst : Option Nat) (e : List (Nat × V)) (m : List (Nat × AO)) (done : List Chk) (st : St) (K : List Chk → St → Prop) : Prop := match x with
  | some out => out.nx ≤ st.nx + 1 ∧ drNext dst e m done st K out.v (new out.mem m)
  | none => False
def dvK (P : Program) (op : Op) (x : Option V) (dst : Option Nat) (e : List (Nat × V)) (m : List (Nat × AO)) (done : List Chk) (st : St) (K : List Chk → St → Prop) : Prop := match x with
  | some v => drNext dst e m done st K (some v) []
  | none => doK (evM P e m st.nx op) dst e m done st K
section
variable {P : Program} {K : List Chk → St → Prop} {e : List (Nat × V)} {m : List (Nat × AO)} {st : St} {done : List Chk} {op : Op} {dst : Option Nat}
@[simp] theorem doK_some (out : Out) : doK (some out) dst e m done st K = (out.nx ≤ st.nx + 1 ∧ drNext dst e m done st K out.v (new out.mem m)) := rfl
@[simp] theorem doK_none : doK none dst e m done st K = False := rfl
@[simp] theorem doK_ite (c : Prop) [Decidable c] (x y : Option Out) : doK (if c then x else y) dst e m done st K = if c then doK x dst e m done st K else doK y dst e m done st K := by split <;> rfl
@[simp] theorem dvK_some (v : V) : dvK P op (some v) dst e m done st K = drNext dst e m done st K (some v) [] := rfl
@[simp] theorem dvK_none : dvK P op none dst e m done st K = doK (evM P e m st.nx op) dst e m done st K := rfl
@[simp] theorem dvK_ite (c : Prop) [Decidable c] (x y : Option V) : dvK P op (if c then x else y) dst e m done st K = if c then dvK P op x dst e m done st K else dvK P op y dst e m done st K := by split <;> rfl
@[simp] theorem drOp_eq (o : Oper) : drOp P o e m done st K = dvK P o.op (evV P e m o.op) o.dst e m done st K := by
  unfold drOp evO dvK doK
  cases evV P e m o.op with
  | none => rfl
  | some v => simp [new]
end
section
variable {P : Program} {K : St → Prop} {KC : List Chk → St → Prop} {all r : List Oper} {o : Oper} {e : List (Nat × V)} {m : List (Nat × AO)} {n t : Nat} {done : List Chk}
@[simp] theorem drawsP_eq (ops : List Oper) : drawsP P ops K ⟨e, m, n, t⟩ = drGo P ops K ops [] ⟨e, m, n, t⟩ := rfl
@[simp] theorem drGo_nil : drGo P all K [] done ⟨e, m, n, t⟩ = ((chkOk (ancGo all []) [] done = true ∧ backGo all 0 = true) ∧ K ⟨e, m, n, t⟩) := rfl
@[simp] theorem drGo_cons : drGo P all K (o :: r) done ⟨e, m, n, t⟩ = (match o.guard with
    | none => drStep P o (pick e (tmpsOf o.op)) done ⟨e, m, n, t⟩ (drGo P all K r)
    | some (j, want) => match guardD all j with
      | some d => match look d e with
        | some (.bool b) => (match want with
          | true => br b (drStep P o ((d, .bool true) :: pick e (tmpsOf o.op)) done ⟨(d, .bool true) :: e, m, n, t⟩ (drGo P all K r)) (drSkip o [(d, .bool false)] done ⟨(d, .bool false) :: e, m, n, t⟩ (drGo P all K r))
          | false => br b (drSkip o [(d, .bool true)] done ⟨(d, .bool true) :: e, m, n, t⟩ (drGo P all K r)) (drStep P o ((d, .bool false) :: pick e (tmpsOf o.op)) done ⟨(d, .bool false) :: e, m, n, t⟩ (drGo P all K r)))
        | some (.tup []) => drSkip o [(d, .tup [])] done ⟨e, m, n, t⟩ (drGo P all K r)
        | _ => False
      | none => False) := by
  cases hg : o.guard with
  | none => simp only [drGo, hg]
  | some g =>
    obtain ⟨j, want⟩ := g
    simp only [drGo, hg]
    cases guardD all j with
    | none => rfl
    | some d =>
      simp only []
      cases look d e with
      | none => rfl
      | some v =>
        cases v with
        | bool b =>
          cases want
          · simp only [br, St.set, Bool.not_false]
            exact propext ⟨fun h => ⟨h.2, h.1⟩, fun h => ⟨h.2, h.1⟩⟩
          · rfl
        | tup vs => cases vs <;> rfl
        | _ => rfl
@[simp] theorem drStep_eq {e' : List (Nat × V)} : drStep P o e' done ⟨e, m, n, t⟩ KC = (belowE n e' = true ∧ belowM n (memO o.op m e') = true ∧ drEv P o e' (memO o.op m e') done ⟨e, m, n, t⟩ KC) := rfl
@[simp] theorem drSkip_eq {e' : List (Nat × V)} : drSkip o e' done ⟨e, m, n, t⟩ KC = drNext o.dst e' [] done ⟨e, m, n, t⟩ KC (some (.tup [])) [] := rfl
@[simp] theorem drNext_some {d : Nat} {e' : List (Nat × V)} {m' : List (Nat × AO)} {v : V} {u : List (Nat × AO)} : drNext (some d) e' m' done ⟨e, m, n, t⟩ KC (some v) u = (d < t ∧ KC (done ++ [⟨keysL e', [d], keysL m', keysL u⟩]) ⟨(d, v) :: e, u ++ m, n + 1, t⟩) := rfl
@[simp] theorem drNext_none {e' : List (Nat × V)} {m' : List (Nat × AO)} {v : Option V} {u : List (Nat × AO)} : drNext none e' m' done ⟨e, m, n, t⟩ KC v u = KC (done ++ [⟨keysL e', [], keysL m', keysL u⟩]) ⟨e, u ++ m, n + 1, t⟩ := by cases v <;> rfl
end
attribute [simp] Op.operands drEv memO pick tmpsOf tmpsO refsE refsM reach dedup allLt belowE belowM new keysL V.refs refsL AO.refs eqC eqK
/-- The same calls, the arguments first. -/
theorem callA {P : Program} {f : FuncId} {vs args : List V} {v : V} {mem : List (Nat × AO)} {nx : Nat} {st : St} {dst : Option Nat} {K : St → Prop} (ha : purA (frA mem vs) vs = some args) (hp : Pure P f args v) (hk : putK st dst (some v) (if flat v = true then mem else frA mem vs) nx K) : CallK P f vs mem nx (putR st dst K) := callP hp ha hk
theorem callB {P : Program} {f : FuncId} {vs args : List V} {r : V} {m : List (Nat × AO)} {nx : Nat} {dst : Option Nat} {e : List (Nat × V)} {m0 : List (Nat × AO)} {done : List Chk} {st : St} {K : List Chk → St → Prop} (ha : purA (frA m vs) vs = some args) (hp : Pure P f args r) (hk : drNext dst e m0 done st K (some r) (if flat r = true then [] else new (frA m vs) m)) : CallD P f vs m nx (drR dst e m0 done st K) := callD_pure hp ha hk
theorem chkI {a : List Nat} {b c : List Chk} (h : chkOk a b c = true) : chkOk a b c = true := h
theorem backI {a : List Oper} {n : Nat} (h : backGo a n = true) : backGo a n = true := h
end Go.Proofs.Ytalkadbpdaoifaa.AX
/- One state told as another: fewer facts, other numbers for objects, lists that begin empty. -/
namespace Go.Proofs.Ytalkadbpdaoifaa.AX
open Go Go.RowKit
set_option linter.unusedVariables false
set_option linter.unusedSimpArgs false
mutual
def V.ren (ρ : Nat → Nat) : V → V
  | .ptr s o => .ptr (ρ s) o
  | .ep s z i o => .ep (ρ s) z i o
  | .rf s => .rf (ρ s)
  | .psl s n => .psl (ρ s) n
  | .agg cs => .agg (renL ρ cs)
  | .tup cs => .tup (renL ρ cs)
  | .fn f cs => .fn f (renL ρ cs)
  | v => v
def renL (ρ : Nat → Nat) : List V → List V
  | [] => []
  | a :: r => a.ren ρ :: renL ρ r
end
def AO.ren (ρ : Nat → Nat) : AO → AO
  | .box fz T cs => .box fz T (renL ρ cs)
  | .map kvs => .map (kvs.map fun p => (p.1, p.2.ren ρ))
  | o => o
theorem renL_get {ρ : Nat → Nat} : ∀ {cs : List V} (i : Nat), (renL ρ cs)[i]? = (cs[i]?).map (·.ren ρ)
  | [], i => by simp [renL]
  | a :: r, 0 => by simp [renL]
  | a :: r, i + 1 => by simp [renL, renL_get i]
theorem renL_len {ρ : Nat → Nat} : ∀ (cs : List V), (renL ρ cs).length = cs.length
  | [] => rfl
  | a :: r => by simp [renL, renL_len r]
theorem ren_cell {ρ : Nat → Nat} {v : V} : (v.ren ρ).cell = v.cell := by cases v <;> rfl
section
variable {H : Imm} {φ φ' : Nat → Option Value} {ρ : Nat → Nat}
mutual
theorem rep_ren : ∀ (v : V) {c : Value}, Rep H φ (v.ren ρ) c → (∀ s ∈ v.refs, φ' s = φ (ρ s)) → Rep H φ' v c
  | .ptr s o, c, h, hs => by
    simp only [V.ren] at h
    obtain ⟨g, h1, rfl⟩ := rep_ptr h
    exact .ptr s o g (by rw [hs s (by simp [V.refs])]; exact h1)
  | .ep s z i o, c, h, hs => by
    simp only [V.ren] at h
    obtain ⟨g, n, cc, h1, rfl⟩ := rep_ep h
    exact .ep s z i o g n cc (by rw [hs s (by simp [V.refs])]; exact h1)
  | .rf s, c, h, hs => by
    simp only [V.ren] at h
    obtain ⟨h1, h2⟩ := rep_rf h
    exact .rf s c (by rw [hs s (by simp [V.refs])]; exact h1) h2
  | .psl s n, c, h, hs => by
    simp only [V.ren] at h
    obtain ⟨g, h1, rfl⟩ := rep_psl h
    exact .psl s n g (by rw [hs s (by simp [V.refs])]; exact h1)
  | .agg cs, c, h, hs => by
    simp only [V.ren] at h
    obtain ⟨vs, rfl, h1, h2⟩ := rep_agg h
    have := repL_ren cs h1 (fun s hx => hs s (by simpa [V.refs] using hx))
    refine .agg _ _ this.1 this.2 fun a ha => ?_
    obtain ⟨i, hi⟩ := List.getElem?_of_mem ha
    have := h2 (a.ren ρ) (List.mem_of_getElem? (i := i) (by rw [renL_get, hi]; rfl))
    rwa [ren_cell] at this
  | .tup cs, c, h, hs => by
    simp only [V.ren] at h
    obtain ⟨vs, rfl, h1⟩ := rep_tup h
    have := repL_ren cs h1 (fun s hx => hs s (by simpa [V.refs] using hx))
    exact .tup _ _ this.1 this.2
  | .fn f cs, c, h, hs => by
    simp only [V.ren] at h
    obtain ⟨vs, rfl, h1⟩ := rep_fn h
    have := repL_ren cs h1 (fun s hx => hs s (by simpa [V.refs] using hx))
    exact .fn _ _ _ this.1 this.2
  | .ip cs, c, h, hs => by
    simp only [V.ren] at h
    obtain ⟨ad, u, rfl, h1, h2, h3, h4⟩ := rep_ip h
    exact .ip _ ad u h1 h2 h3 h4
  | .int k n, c, h, hs => by simp only [V.ren] at h; cases h with | d _ _ h => exact .d _ _ h
  | .bool b, c, h, hs => by simp only [V.ren] at h; cases h with | d _ _ h => exact .d _ _ h
  | .str s, c, h, hs => by simp only [V.ren] at h; cases h with | d _ _ h => exact .d _ _ h
  | .nl, c, h, hs => by simp only [V.ren] at h; cases h with | d _ _ h => exact .d _ _ h
  | .sl es, c, h, hs => by simp only [V.ren] at h; cases h with | d _ _ h => exact .d _ _ h
  | .fs es, c, h, hs => by simp only [V.ren] at h; cases h with | d _ _ h => exact .d _ _ h
  | .nilp, c, h, hs => by simp only [V.ren] at h; cases h with | d _ _ h => exact .d _ _ h
  | .nili, c, h, hs => by simp only [V.ren] at h; cases h with | d _ _ h => exact .d _ _ h
  | .nilm, c, h, hs => by simp only [V.ren] at h; cases h with | d _ _ h => exact .d _ _ h
  | .nilf, c, h, hs => by simp only [V.ren] at h; cases h with | d _ _ h => exact .d _ _ h
  | .ifc T v, c, h, hs => by simp only [V.ren] at h; cases h with | d _ _ h => exact .d _ _ h
  | .un, c, h, hs => .un c
theorem repL_ren : ∀ (cs : List V) {vs : List Value}, RepL H φ (renL ρ cs) vs → (∀ s ∈ refsL cs, φ' s = φ (ρ s)) → RepL H φ' cs vs
  | [], vs, h, hs => ⟨by simpa [renL] using h.1, fun i a v e => by simp at e⟩
  | a :: r, vs, h, hs => by
    obtain ⟨c, cs', rfl⟩ : ∃ c cs', vs = c :: cs' := by
      cases vs with
      | nil => have := h.1; simp [renL] at this
      | cons c cs' => exact ⟨c, cs', rfl⟩
    have h0 := rep_ren a (h.2 0 _ c rfl rfl) (fun s hx => hs s (by simp [refsL, hx]))
    have hr := repL_ren r (vs := cs') ⟨by simpa [renL] using h.1, fun i x v e1 e2 => h.2 (i + 1) x v (by simpa [renL] using e1) (by simpa using e2)⟩ (fun s hx => hs s (by simp [refsL, hx]))
    refine ⟨by simp [hr.1], fun i x v e1 e2 => ?_⟩
    rcases i with _ | i
    · simp at e1 e2; subst e1; subst e2; exact h0
    · exact hr.2 i x v (by simpa using e1) (by simpa using e2)
end
theorem satO_ren {w : World} {l : Value} {o : AO} (h : SatO H φ w l (o.ren ρ)) (hs : ∀ s ∈ o.refs, φ' s = φ (ρ s)) : SatO H φ' w l o := by
  cases o with
  | box fz T cs =>
    have cc : (∀ a ∈ renL ρ cs, a.cell = true) → ∀ a ∈ cs, a.cell = true := fun hc a ha => by
      obtain ⟨i, hi⟩ := List.getElem?_of_mem ha
      have := hc (a.ren ρ) (List.mem_of_getElem? (i := i) (by rw [renL_get, hi]; rfl))
      rwa [ren_cell] at this
    cases fz with
    | false => obtain ⟨g, vs, e, h1, h2, h3⟩ := h; exact ⟨g, vs, e, h1, repL_ren cs h2 hs, cc h3⟩
    | true => obtain ⟨g, vs, e, h1, h2, h3⟩ := h; exact ⟨g, vs, e, h1, repL_ren cs h2 hs, cc h3⟩
  | row fz T z es => cases fz <;> exact h
  | map kvs =>
    obtain ⟨r, es, clock, e, h1, h2, h3, h4⟩ := h
    refine ⟨r, es, clock, e, h1, by simpa using h2, fun i p x h5 h6 => ?_, h4⟩
    obtain ⟨a, b, c⟩ := h3 i (p.1, p.2.ren ρ) x (by simp [h5]) h6
    exact ⟨a, rep_ren p.2 b fun s hx => hs s (by simp only [AO.refs]; exact mem_refsL (List.mem_map.2 ⟨p, List.mem_of_getElem? h5, rfl⟩) hx), c⟩
  | gone => trivial
end
theorem ren_live {ρ : Nat → Nat} (o : AO) : (o.ren ρ).live = o.live := by cases o <;> rfl
/-- The value v tells of u. -/
def cov (ρ : Nat → Nat) (mem : List (Nat × AO)) (v u : V) : Prop :=
  match v with
  | .un => True
  | .sl es => pur1 mem u = some (.sl es)
  | .agg vs => u = .agg (renL ρ vs) ∨ pur mem u = some (.agg vs)
  | v => u = v.ren ρ
theorem cov_rep {B : Base} {H : Imm} {φ φ' : Nat → Option Value} {mem : List (Nat × AO)} {nx : Nat} {w : World} {ρ : Nat → Nat} (S : Sat B H φ mem nx w) {v u : V} (h : cov ρ mem v u) {c : Value} (hu : Rep H φ u c) (hs : ∀ s ∈ v.refs, φ' s = φ (ρ s)) : Rep H φ' v c := by
  unfold cov at h
  split at h
  · exact .un c
  · exact .d _ _ (pur1_rep S h hu)
  · rcases h with h | h
    · subst h
      exact rep_ren (.agg _) (by simpa [V.ren] using hu) hs
    · exact .d _ _ (pur_rep S h hu)
  · subst h
    exact rep_ren _ hu hs
def rho (rl : List (Nat × Nat)) (k : Nat) : Nat := (look k rl).getD k
def chkE (rl : List (Nat × Nat)) (e : List (Nat × V)) (m : List (Nat × AO)) (n : Nat) : List (Nat × V) → Prop
  | [] => True
  | (t, v) :: r => (match look t e with
    | some u => cov (rho rl) m v u
    | none => False) ∧ allLt n v.refs = true ∧ chkE rl e m n r
def chkM (rl : List (Nat × Nat)) (m : List (Nat × AO)) (n : Nat) : List (Nat × AO) → Prop
  | [] => True
  | (k, o) :: r => (k < n ∧ (match o with
    | .gone => (look (rho rl k) m).isSome = true
    | o => look (rho rl k) m = some (o.ren (rho rl))) ∧ allLt n o.refs = true) ∧ chkM rl m n r
def liveK : List (Nat × AO) → List Nat
  | [] => []
  | (k, o) :: r => if o.live = true then k :: liveK r else liveK r
def apart (rl : List (Nat × Nat)) : List Nat → Prop
  | [] => True
  | k :: r => (∀ j ∈ r, rho rl k = rho rl j → k = j) ∧ apart rl r
def keep (rl : List (Nat × Nat)) (b : Nat) : List (Nat × Nat) → Prop
  | [] => True
  | (k, _) :: r => b ≤ k ∧ keep rl b r
theorem keep_ok {rl : List (Nat × Nat)} {b k : Nat} (h : keep rl b rl) (hk : k < b) : rho rl k = k := by
  have : ∀ l : List (Nat × Nat), keep rl b l → look k l = none := by
    intro l
    induction l with
    | nil => intro _; rfl
    | cons p r ih =>
      obtain ⟨i, x⟩ := p
      intro h
      rw [look_cons, if_neg (by have := h.1; omega)]
      exact ih h.2
  simp [rho, this rl h]
theorem chkE_ok {rl : List (Nat × Nat)} {e : List (Nat × V)} {m : List (Nat × AO)} {n : Nat} : ∀ {l : List (Nat × V)}, chkE rl e m n l → ∀ t v, (t, v) ∈ l → (∃ u, look t e = some u ∧ cov (rho rl) m v u) ∧ ∀ k ∈ v.refs, k < n
  | (t', v') :: r, h, t, v, hm => by
    obtain ⟨h1, h2, h3⟩ := h
    rcases List.mem_cons.1 hm with he | he
    · cases he
      split at h1
      · rename_i u hu; exact ⟨⟨u, hu, h1⟩, allLt_ok h2⟩
      · exact h1.elim
    · exact chkE_ok h3 t v he
theorem chkM_ok {rl : List (Nat × Nat)} {m : List (Nat × AO)} {n : Nat} : ∀ {l : List (Nat × AO)}, chkM rl m n l → ∀ k o, (k, o) ∈ l → k < n ∧ (∃ o', look (rho rl k) m = some o' ∧ (o = .gone ∨ o' = o.ren (rho rl))) ∧ ∀ j ∈ o.refs, j < n
  | (k', o') :: r, h, k, o, hm => by
    obtain ⟨⟨h1, h2, h3⟩, h4⟩ := h
    rcases List.mem_cons.1 hm with he | he
    · cases he
      refine ⟨h1, ?_, allLt_ok h3⟩
      split at h2
      · obtain ⟨o', ho'⟩ := Option.isSome_iff_exists.1 h2
        exact ⟨o', ho', .inl rfl⟩
      · exact ⟨_, h2, .inr rfl⟩
    · exact chkM_ok h4 k o he
theorem liveK_mem {k : Nat} {o : AO} : ∀ {l : List (Nat × AO)}, (k, o) ∈ l → o.live = true → k ∈ liveK l
  | (k', o') :: r, hm, hv => by
    unfold liveK
    rcases List.mem_cons.1 hm with he | he
    · cases he; rw [if_pos hv]; simp
    · split
      · exact List.mem_cons_of_mem _ (liveK_mem he hv)
      · exact liveK_mem he hv
theorem apart_ok {rl : List (Nat × Nat)} : ∀ {l : List Nat}, apart rl l → ∀ k ∈ l, ∀ j ∈ l, rho rl k = rho rl j → k = j
  | i :: r, h, k, hk, j, hj, e => by
    rcases List.mem_cons.1 hk with h1 | h1
    · rcases List.mem_cons.1 hj with h2 | h2
      · rw [h1, h2]
      · rw [h1] at e ⊢; exact h.1 j h2 e
    · rcases List.mem_cons.1 hj with h2 | h2
      · rw [h2] at e ⊢; exact (h.1 k h1 e.symm).symm
      · exact apart_ok h.2 k h1 j h2 e
/-- Another telling, checked. -/
def toC (rl : List (Nat × Nat)) (s : St) (b : Nat) (s' : St) : Prop :=
  keep rl b rl ∧ b ≤ s'.nx ∧ s'.nt = s.nt ∧ chkE rl s.env s.mem s'.nx s'.env ∧ chkM rl s.mem s'.nx s'.mem ∧ apart rl (liveK s'.mem)
theorem St.to_chk (rl : List (Nat × Nat)) {s s' : St} {b : Nat} (h : toC rl s b s') : s.to b s' := by
  obtain ⟨h1, h2, h3, h4, h5, h6⟩ := h
  refine ⟨fun B a w hB hs => ?_⟩
  obtain ⟨H, φ, hd, hsz, he, S⟩ := hs
  have hφ : ∀ k, k < s'.nx → (fun k => if k < s'.nx then φ (rho rl k) else none) k = φ (rho rl k) := fun k hk => if_pos hk
  refine ⟨H, fun k => if k < s'.nx then φ (rho rl k) else none, hd, by rw [h3]; exact hsz, fun t v hv => ?_, S.imm, fun k o hk => ?_, fun k hk => if_neg (by omega), fun k o l g hk hv hl hb => ?_, fun k k' o o' l l' g hk hk' hv hv' hl hl' hb hb' => ?_, S.os, S.tape, S.output, S.size, S.kept, S.him, S.hne, Nat.le_trans hB h2, fun k hk => ?_⟩
  · obtain ⟨⟨u, hu, hc⟩, hr⟩ := chkE_ok h4 t v (mem_of_look hv)
    obtain ⟨c, g1, g2⟩ := he t u hu
    exact ⟨c, g1, cov_rep S hc g2 fun k hk => hφ k (hr k hk)⟩
  · obtain ⟨q1, ⟨o', q2, hq⟩, q3⟩ := chkM_ok h5 k o (mem_of_look hk)
    obtain ⟨l, g1, g2⟩ := S.obj _ _ q2
    refine ⟨l, by rw [if_pos q1]; exact g1, ?_⟩
    rcases hq with rfl | rfl
    · trivial
    · exact satO_ren g2 fun j hj => hφ j (q3 j hj)
  · obtain ⟨q1, ⟨o1, q2, hq⟩, q3⟩ := chkM_ok h5 k o (mem_of_look hk)
    rcases hq with rfl | rfl
    · cases hv
    rw [if_pos q1] at hl
    exact S.exc _ _ l g q2 (by rw [ren_live]; exact hv) hl hb
  · obtain ⟨q1, ⟨o1, q2, hq⟩, q3⟩ := chkM_ok h5 k o (mem_of_look hk)
    obtain ⟨q1', ⟨o1', q2', hq'⟩, q3'⟩ := chkM_ok h5 k' o' (mem_of_look hk')
    rcases hq with rfl | rfl
    · cases hv
    rcases hq' with rfl | rfl
    · cases hv'
    rw [if_pos q1] at hl
    rw [if_pos q1'] at hl'
    exact apart_ok h6 k (liveK_mem (mem_of_look hk) hv) k' (liveK_mem (mem_of_look hk') hv') (S.sep _ _ _ _ l l' g q2 q2' (by rw [ren_live]; exact hv) (by rw [ren_live]; exact hv') hl hl' hb hb')
  · have : k < s'.nx := by omega
    show (if k < s'.nx then φ (rho rl k) else none) = _
    rw [if_pos this, keep_ok h1 (by omega)]
    exact S.fix.2 k hk
theorem St.to.trans {s s' s'' : St} {b : Nat} (h : s.to b s') (g : s'.to b s'') : s.to b s'' := ⟨fun B a w hB hs => g.run B a w hB (h.run B a w hB hs)⟩
/-- A list that is nil is one of its own, with nothing in it. -/
theorem St.to_own (d T z : Nat) {e : List (Nat × V)} {m : List (Nat × AO)} {n t b : Nat} (h : look d e = some .nl) (hb : b ≤ n) : (St.mk e m n t).to b ⟨(d, .rf n) :: e, (n, .row false T z []) :: m, n + 1, t⟩ := by
  refine ⟨fun B a w hB hs => ?_⟩
  obtain ⟨H, φ, hd, hsz, he, S⟩ := hs
  have hnew := S.new n (Nat.le_refl _)
  obtain ⟨c, g1, g2⟩ := he d _ h
  obtain rfl := rep_nl g2
  refine ⟨H, upd φ n (.slice none 0 0), hd, hsz, fun t v hv => ?_, S.push ⟨rfl, rfl, rfl, Nat.le_refl _, fun _ _ _ => rfl⟩ (Nat.le_refl _) (Nat.lt_succ_self _) ⟨[], ⟨by simp, .inl ⟨rfl, rfl⟩⟩, by simp, fun i e h => by simp at h⟩ (fun g hg => by cases hg)⟩
  rw [look_cons] at hv
  split at hv
  · rename_i e; subst e; cases hv
    exact ⟨_, g1, .rf _ _ (upd_same _ _ _) rfl⟩
  · obtain ⟨c', q1, q2⟩ := he t v hv
    exact ⟨c', q1, q2.mono (Imm.le_refl _) (fle_upd _ hnew)⟩
/-- What stands under other names than W's, each name once. -/
def clean (W : List Nat) : List (Nat × V) → List (Nat × V)
  | [] => []
  | (t, v) :: r => if W.contains t = true then clean W r else (t, v) :: clean (t :: W) r
section
variable {P : Program} {draws : List Oper → (St → Prop) → St → Prop} {Q : Exit → St → Prop}
/-- A loop: of the names of W alone another value comes about. -/
theorem aw_loopS {α : Type} (W : List Nat) (up : α → List (Nat × V)) (μ : α → Nat) (x : α) {c : Code} {e : List (Nat × V)} {m : List (Nat × AO)} {n t : Nat} (h0 : toC [] ⟨e, m, n, t⟩ n ⟨up x ++ clean W e, m, n, t⟩)
    (h : ∀ y, aw P draws c (exK Q (fun st' => ∃ z, μ z < μ y ∧ st'.to n ⟨up z ++ clean W e, m, n, t⟩)) ⟨up y ++ clean W e, m, n, t⟩) : aw P draws (.loop c) Q ⟨e, m, n, t⟩ :=
  aw_loop (fun y => ⟨up y ++ clean W e, m, n, t⟩) μ x (St.to_chk [] h0) h
/-- A loop that turns objects, too. -/
theorem aw_loopM {α : Type} (W : List Nat) (up : α → List (Nat × V)) (M : α → List (Nat × AO)) (n1 : Nat) (μ : α → Nat) (x : α) {c : Code} {e : List (Nat × V)} {m : List (Nat × AO)} {n t : Nat} (h0 : (St.mk e m n t).to n ⟨up x ++ clean W e, M x, n1, t⟩)
    (h : ∀ y, aw P draws c (exK Q (fun st' => ∃ z, μ z < μ y ∧ st'.to n ⟨up z ++ clean W e, M z, n1, t⟩)) ⟨up y ++ clean W e, M y, n1, t⟩) : aw P draws (.loop c) Q ⟨e, m, n, t⟩ :=
  aw_loop (fun y => ⟨up y ++ clean W e, M y, n1, t⟩) μ x h0 h
end
attribute [simp] toC keep chkE chkM liveK apart rho cov V.ren renL AO.ren clean AO.live
end Go.Proofs.Ytalkadbpdaoifaa.AX
/- Functions that are handed objects: contracts, and calls of them. -/
namespace Go.Proofs.Ytalkadbpdaoifaa.AX
open Go Go.RowKit
set_option linter.unusedVariables false
set_option linter.unusedSimpArgs false
section
variable {P : Program} {B : Base} {H : Imm} {φ φ1 φ2 : Nat → Option Value} {σ : Nat → Nat} {m1 m2 M : List (Nat × AO)} {n1 n2 N : Nat} {w : World}
/-- The same objects under other numbers. -/
theorem Sat.re (S : Sat B H φ1 m1 n1 w) (hm : ∀ t o, look t m2 = some o → look (σ t) m1 = some (o.ren σ) ∧ φ2 t = φ1 (σ t) ∧ ∀ j ∈ o.refs, φ2 j = φ1 (σ j))
    (hi : ∀ t t' o o', look t m2 = some o → look t' m2 = some o' → o.live = true → o'.live = true → σ t = σ t' → t = t') (hnew : ∀ t, n2 ≤ t → φ2 t = none) (hfix : B.n0 ≤ n2 ∧ ∀ s, s < B.n0 → φ2 s = B.φ0 s) : Sat B H φ2 m2 n2 w := by
  refine ⟨S.imm, fun k o hk => ?_, hnew, fun k o l g hk hv hl hb => ?_, fun k k' o o' l l' g hk hk' hv hv' hl hl' hb hb' => ?_, S.os, S.tape, S.output, S.size, S.kept, S.him, S.hne, hfix⟩
  · obtain ⟨h1, h2, h3⟩ := hm k o hk
    obtain ⟨l, g1, g2⟩ := S.obj _ _ h1
    exact ⟨l, by rw [h2]; exact g1, satO_ren g2 h3⟩
  · obtain ⟨h1, h2, h3⟩ := hm k o hk
    exact S.exc _ _ l g h1 (by rw [ren_live]; exact hv) (by rw [← h2]; exact hl) hb
  · obtain ⟨h1, h2, h3⟩ := hm k o hk
    obtain ⟨h1', h2', h3'⟩ := hm k' o' hk'
    exact hi k k' o o' hk hk' hv hv' (S.sep _ _ _ _ l l' g h1 h1' (by rw [ren_live]; exact hv) (by rw [ren_live]; exact hv') (by rw [← h2]; exact hl) (by rw [← h2']; exact hl') hb hb')
theorem Sat.based (S : Sat B H φ M N w) {φ0 : Nat → Option Value} {n0 : Nat} (h : n0 ≤ N ∧ ∀ s, s < n0 → φ s = φ0 s) : Sat ⟨B.w0, B.H0, B.mine, φ0, n0⟩ H φ M N w :=
  ⟨S.imm, S.obj, S.new, S.exc, S.sep, S.os, S.tape, S.output, S.size, S.kept, S.him, S.hne, h⟩
end
def keysIn (m : List (Nat × AO)) (l : List Nat) : Bool := (keysL m).all (l.contains ·)
def belowK (k : Nat) : List (Nat × AO) → Bool
  | [] => true
  | (s, o) :: r => decide (s < k) && (allLt k o.refs && belowK k r)
/-- A function's contract: handed vs, with the objects 0 .. k-1 as m tells them, it hands back r, and leaves them as m' tells. -/
structure Fn (P : Program) (f : FuncId) (vs : List V) (m : List (Nat × AO)) (k : Nat) (r : V) (m' : List (Nat × AO)) (k' : Nat) : Prop where
  en : enters P f = true
  bel : belowK k m = true
  kk : k ≤ k'
  inn : keysIn m (keysL m') = true
  run : ∀ (B : Base) (H : Imm) (φ : Nat → Option Value) (w : World) (cargs : List Value), RepL H φ vs cargs → Sat B H φ m k w →
    Calls P f cargs.toArray w fun e w' => ∃ v H' φ', e = .returned v ∧ Rep H' φ' r v ∧ H.le H' ∧ fext k φ φ' ∧ Sat B H' φ' m' k' w'
/-- What a return must show. -/
def retF (P : Program) (res : List ResultVar) (k : Nat) (r : V) (m' : List (Nat × AO)) (k' : Nat) : Exit → St → Prop
  | .normal, st | .ret, st => match retL P st.env st.mem res with
    | some vs => (St.mk [(0, mkT vs)] st.mem st.nx 1).to k ⟨[(0, r)], m', k', 1⟩
    | none => False
  | _, _ => False
section
variable {P : Program}
theorem belowK_ok {k : Nat} : ∀ {m : List (Nat × AO)}, belowK k m = true → ∀ s o, (s, o) ∈ m → s < k ∧ ∀ j ∈ o.refs, j < k
  | (s', o') :: r, h, s, o, hm => by
    simp only [belowK, Bool.and_eq_true, decide_eq_true_eq] at h
    rcases List.mem_cons.1 hm with he | he
    · cases he; exact ⟨h.1, allLt_ok h.2.1⟩
    · exact belowK_ok h.2.2 s o he
theorem keysIn_ok {m m' : List (Nat × AO)} (h : keysIn m (keysL m') = true) {s : Nat} (hs : (look s m).isSome = true) : (look s m').isSome = true := by
  unfold keysIn at h
  have := List.all_eq_true.1 h s (look_key.1 hs)
  exact look_key.2 (by simpa using this)
theorem mkT_rep' {H : Imm} {φ : Nat → Option Value} {vs : List V} {cs : List Value} (h : RepL H φ vs cs) : Rep H φ (mkT vs) (if cs.length = 1 then cs.headD undef else .tuple cs.toArray) := by
  have hl := h.1
  match vs, cs, hl, h with
  | [v], [c], _, h => exact h.2 0 v c rfl rfl
  | [], [], _, h => exact .tup _ _ h.1 h.2
  | a :: b :: r, c :: d :: q, _, h =>
    have : (c :: d :: q).length ≠ 1 := by simp
    rw [if_neg this]
    exact .tup _ _ h.1 h.2
/-- THE CONTRACT of a function that is handed objects. -/
theorem fn_of_aw {draws : List Oper → (St → Prop) → St → Prop} (hd : DrawsOk P draws) {f : FuncId} {fn : Func} {c : Code} {vs : List V} {m m' : List (Nat × AO)} {k k' : Nat} {r : V} (hf : P.funcs[f]? = some fn) (hb : fn.body = some c) (hn : (fn.name == "runtime.NumGoroutine") = false)
    {res : List ResultVar} (hres : fn.results.toList = res) {nt : Nat} (hntm : fn.ntmps = nt) (hnt : decide (vs.length ≤ nt) = true) (hbel : belowK k m = true) (hkk : decide (k ≤ k') = true) (hin : keysIn m (keysL m') = true)
    (h : aw P draws c (retF P res k r m' k') ⟨env0 0 vs, m, k, nt⟩) : Fn P f vs m k r m' k' := by
  subst hres
  subst hntm
  replace hnt := of_decide_eq_true hnt
  replace hkk := of_decide_eq_true hkk
  refine ⟨by simp [enters, hf, hn, hb], hbel, hkk, hin, fun B H φ w cargs hv S => ?_⟩
  refine calls_of_wp hf hb ?_
  have hcut : ∀ s, cutF φ k s = φ s := fun s => by
    unfold cutF
    split
    · rfl
    · exact (S.new s (by omega)).symm
  have hcutE : cutF φ k = φ := funext hcut
  have Ss := S.sub (m := m) (n := k) fun s o hs => ⟨hs, belowK_ok hbel s o (mem_of_look hs)⟩
  rw [hcutE] at Ss
  have S0 : Sat ⟨w, H, mineOf φ m, φ, k⟩ H φ m k w := Ss.based (n0 := k) ⟨Nat.le_refl _, fun s _ => rfl⟩
  have hs : SatA ⟨w, H, mineOf φ m, φ, k⟩ ⟨env0 0 vs, m, k, fn.ntmps⟩ { tmps := cargs.toArray ++ Array.replicate (fn.ntmps - cargs.toArray.size) undef, defers := [] } w := by
    refine ⟨H, φ, rfl, ?_, by simpa using env0_ok (H := H) (φ := φ) [] (fn.ntmps - cargs.length) hv, S0⟩
    have := hv.1; simp; omega
  refine wp_mono (aw_sound hd c _ _ _ w h hs) fun e a' w' ⟨st, h1, h2⟩ => ?_
  have fin : ∀ {e' : Exit}, (e' = .normal ∨ e' = .ret) → retF P fn.results.toList k r m' k' e' st → a'.defers = [] ∧ ∃ v, (results fn a'.tmps).run P w' = .ok v w' ∧ ∃ x H' φ', Ending.returned v = .returned x ∧ Rep H' φ' r x ∧ H.le H' ∧ fext k φ φ' ∧ Sat B H' φ' m' k' w' := by
    intro e' he' hq
    have hq' : match retL P st.env st.mem fn.results.toList with
        | some vs => (St.mk [(0, mkT vs)] st.mem st.nx 1).to k ⟨[(0, r)], m', k', 1⟩
        | none => False := by rcases he' with rfl | rfl <;> exact hq
    obtain ⟨H1, φ1, hdf, hsz, he, S1⟩ := h1
    split at hq'
    · rename_i rs hrs
      obtain ⟨cs, hr, hl⟩ := results_run S1 he hrs
      have hA : SatA ⟨w, H, mineOf φ m, φ, k⟩ ⟨[(0, mkT rs)], st.mem, st.nx, 1⟩ { tmps := #[if cs.length = 1 then cs.headD undef else .tuple cs.toArray], defers := [] } w' := by
        refine ⟨H1, φ1, rfl, rfl, fun t v hv => ?_, S1⟩
        rw [look_cons, look_nil] at hv
        split at hv
        · rename_i e; subst e; cases hv
          exact ⟨_, rfl, mkT_rep' hl⟩
        · cases hv
      obtain ⟨H2, φ2, _, _, he2, S2⟩ := hq'.run _ _ _ (Nat.le_refl _) hA
      obtain ⟨x, hx, hrep⟩ := he2 0 r (by simp [look])
      have hx' : (if cs.length = 1 then cs.headD undef else .tuple cs.toArray) = x := by simpa using hx
      refine ⟨hdf, _, hr, x, H2, φ2, by rw [hx'], hrep, S2.him, ?_, ?_⟩
      · refine ⟨fun s l hsl => ?_, fun s hs => S2.fix.2 s hs⟩
        have : s < k := by
          refine Nat.lt_of_not_le fun hle => ?_
          rw [S.new s hle] at hsl; cases hsl
        rw [S2.fix.2 s this]; exact hsl
      · have S3 : Sat ⟨w, H, mineOf φ m, fun _ => none, 0⟩ H2 φ2 m' k' w' := S2.based (B := ⟨w, H, mineOf φ m, φ, k⟩) (n0 := 0) (φ0 := fun _ => none) ⟨Nat.zero_le _, fun s hs => absurd hs (Nat.not_lt_zero _)⟩
        obtain ⟨J, f1, f2⟩ := Sat.join (S.wide hkk) (n := k) (n' := k') (m := m) (m' := m') (φ' := φ2) (H' := H2) (w' := w') (fun s o hs => ⟨hs, belowK_ok hbel s o (mem_of_look hs)⟩) S3 (by rw [hcutE]; exact ⟨fun s l hsl => by
            have : s < k := by
              refine Nat.lt_of_not_le fun hle => ?_
              rw [S.new s hle] at hsl; cases hsl
            rw [S2.fix.2 s this]; exact hsl, fun s hs => S2.fix.2 s hs⟩) (fun s h1 h2 => S.new s h1) (Nat.le_refl _) (fun s hs => keysIn_ok hin hs) S.fix.1
        have hjf : joinF φ φ2 k k' = φ2 := funext fun s => by
          unfold joinF
          split
          · rfl
          · rename_i hh
            by_cases hs : s < k
            · exact (S2.fix.2 s hs).symm
            · rw [S.new s (by omega)]
              exact (S2.new s (show k' ≤ s by omega)).symm
        rw [hjf] at J
        exact J.fewer fun s o hs => by rw [look_append, hs]; rfl
    · exact hq'.elim
  cases e with
  | normal => exact fin (.inl rfl) h2
  | ret => exact fin (.inr rfl) h2
  | exit i => exact h2.elim
  | goto l => exact h2.elim
  | panic c => exact h2.elim
  | outgrown => exact h2.elim
end
/-! ### Calls of them -/
section
variable {H : Imm} {φ1 φ2 : Nat → Option Value} {τ : Nat → Nat}
theorem rep_fwd (hτ : ∀ s, φ2 (τ s) = φ1 s) {v : V} {c : Value} (h : Rep H φ1 v c) : Rep H φ2 (v.ren τ) c := by
  have get : ∀ {cs : List V} {i : Nat} {a : V}, (renL τ cs)[i]? = some a → ∃ b, cs[i]? = some b ∧ a = b.ren τ := fun {cs i a} h => by
    rw [renL_get] at h
    obtain ⟨b, h1, h2⟩ := Option.map_eq_some_iff.1 h
    exact ⟨b, h1, h2.symm⟩
  induction h with
  | d v c h =>
    have : v.ren τ = v ∨ ∃ cs, v = .agg cs := by cases v <;> first | exact .inl rfl | exact .inr ⟨_, rfl⟩ | cases h
    rcases this with e | ⟨cs, rfl⟩
    · rw [e]; exact .d _ _ h
    · have e : ∀ (l : List V), (∀ a ∈ l, ∃ x, RepD H a x ∧ a.cell = true) → renL τ l = l := by
        intro l
        induction l with
        | nil => intro _; rfl
        | cons a r ih =>
          intro hl
          obtain ⟨x, hx, hc⟩ := hl a (by simp)
          rw [renL, ih fun b hb => hl b (by simp [hb])]
          congr 1
          cases a <;> first | rfl | (exfalso; cases hx; done) | (exfalso; simp [V.cell] at hc; done)
      have h' := h
      cases h with
      | agg _ vs hl hh hv =>
        rw [V.ren, e cs fun a ha => ?_]
        · exact .d _ _ h'
        · obtain ⟨i, hi⟩ := List.getElem?_of_mem ha
          have hlt : i < vs.length := by rw [hl]; exact (List.getElem?_eq_some_iff.1 hi).1
          exact ⟨vs[i], hh i a _ hi (List.getElem?_eq_getElem hlt), hv a ha⟩
  | un c => exact .un c
  | ptr s o g h => exact .ptr (τ s) o g (by rw [hτ]; exact h)
  | ep s z i o g n c h => exact .ep (τ s) z i o g n c (by rw [hτ]; exact h)
  | ip cs ad u hu hr hv hne => exact .ip cs ad u hu hr hv hne
  | rf s l h h1 => exact .rf (τ s) l (by rw [hτ]; exact h) h1
  | psl s n g h => exact .psl (τ s) n g (by rw [hτ]; exact h)
  | agg cs vs hl h hv ih =>
    refine .agg _ _ (by rw [renL_len]; exact hl) (fun i a v h1 h2 => ?_) fun a ha => ?_
    · obtain ⟨b, g1, rfl⟩ := get h1
      exact ih i b v g1 h2
    · obtain ⟨i, hi⟩ := List.getElem?_of_mem ha
      obtain ⟨b, g1, rfl⟩ := get hi
      rw [ren_cell]; exact hv b (List.mem_of_getElem? g1)
  | tup cs vs hl h ih =>
    refine .tup _ _ (by rw [renL_len]; exact hl) (fun i a v h1 h2 => ?_)
    obtain ⟨b, g1, rfl⟩ := get h1
    exact ih i b v g1 h2
  | fn f cs vs hl h ih =>
    refine .fn _ _ _ (by rw [renL_len]; exact hl) (fun i a v h1 h2 => ?_)
    obtain ⟨b, g1, rfl⟩ := get h1
    exact ih i b v g1 h2
theorem repL_fwd (hτ : ∀ s, φ2 (τ s) = φ1 s) {cs : List V} {vs : List Value} (h : RepL H φ1 cs vs) : RepL H φ2 (renL τ cs) vs := by
  refine ⟨by rw [renL_len]; exact h.1, fun i a v h1 h2 => ?_⟩
  rw [renL_get] at h1
  obtain ⟨b, g1, rfl⟩ := Option.map_eq_some_iff.1 h1
  exact rep_fwd hτ (h.2 i b v g1 h2)
theorem satO_fwd (hτ : ∀ s, φ2 (τ s) = φ1 s) {w : World} {l : Value} {o : AO} (h : SatO H φ1 w l o) : SatO H φ2 w l (o.ren τ) := by
  cases o with
  | box fz T cs =>
    have cc : (∀ a ∈ cs, a.cell = true) → ∀ a ∈ renL τ cs, a.cell = true := fun hc a ha => by
      obtain ⟨i, hi⟩ := List.getElem?_of_mem ha
      rw [renL_get] at hi
      obtain ⟨b, g1, rfl⟩ := Option.map_eq_some_iff.1 hi
      rw [ren_cell]; exact hc b (List.mem_of_getElem? g1)
    cases fz with
    | false => obtain ⟨g, vs, e, h1, h2, h3⟩ := h; exact ⟨g, vs, e, h1, repL_fwd hτ h2, cc h3⟩
    | true => obtain ⟨g, vs, e, h1, h2, h3⟩ := h; exact ⟨g, vs, e, h1, repL_fwd hτ h2, cc h3⟩
  | row fz T z es => cases fz <;> exact h
  | map kvs =>
    obtain ⟨r, es, clock, e, h1, h2, h3, h4⟩ := h
    refine ⟨r, es, clock, e, h1, by simpa using h2, fun i p x h5 h6 => ?_, h4⟩
    rw [List.getElem?_map] at h5
    obtain ⟨q, g1, rfl⟩ := Option.map_eq_some_iff.1 h5
    obtain ⟨a, b, c⟩ := h3 i q x g1 h6
    exact ⟨a, rep_fwd hτ b, c⟩
  | gone => trivial
end
def renM (τ : Nat → Nat) : List (Nat × AO) → List (Nat × AO)
  | [] => []
  | (s, o) :: r => (τ s, o.ren τ) :: renM τ r
theorem look_renM {τ : Nat → Nat} (hi : ∀ a b, τ a = τ b → a = b) {t : Nat} {o2 : AO} : ∀ {m : List (Nat × AO)}, look t (renM τ m) = some o2 → ∃ s o, t = τ s ∧ look s m = some o ∧ o2 = o.ren τ
  | [], h => by simp [renM, look] at h
  | (s, o) :: r, h => by
    rw [renM, look_cons] at h
    split at h
    · rename_i e
      cases h
      exact ⟨s, o, e, by rw [look_cons, if_pos rfl], rfl⟩
    · rename_i e
      obtain ⟨s', o', h1, h2, h3⟩ := look_renM hi h
      exact ⟨s', o', h1, by rw [look_cons, if_neg fun e' => e (by rw [h1, e'])]; exact h2, h3⟩
theorem renM_some {τ : Nat → Nat} {s : Nat} : ∀ {m : List (Nat × AO)}, (look s m).isSome = true → (look (τ s) (renM τ m)).isSome = true
  | [], h => by simp [look] at h
  | (s', o) :: r, h => by
    rw [renM, look_cons]
    split
    · rfl
    · rename_i e
      rw [look_cons, if_neg fun e' => e (by rw [e'])] at h
      exact renM_some h
theorem Sat.fwd {B : Base} {H : Imm} {φ1 φ2 : Nat → Option Value} {τ : Nat → Nat} {m : List (Nat × AO)} {n1 n2 : Nat} {w : World} (S : Sat B H φ1 m n1 w) (hi : ∀ a b, τ a = τ b → a = b) (hτ : ∀ s, φ2 (τ s) = φ1 s) (hnew : ∀ t, n2 ≤ t → φ2 t = none) (hfix : B.n0 ≤ n2 ∧ ∀ s, s < B.n0 → φ2 s = B.φ0 s) : Sat B H φ2 (renM τ m) n2 w := by
  refine ⟨S.imm, fun k o hk => ?_, hnew, fun k o l g hk hv hl hb => ?_, fun k k' o o' l l' g hk hk' hv hv' hl hl' hb hb' => ?_, S.os, S.tape, S.output, S.size, S.kept, S.him, S.hne, hfix⟩
  · obtain ⟨s, o1, rfl, h1, rfl⟩ := look_renM hi hk
    obtain ⟨l, g1, g2⟩ := S.obj _ _ h1
    exact ⟨l, by rw [hτ]; exact g1, satO_fwd hτ g2⟩
  · obtain ⟨s, o1, rfl, h1, rfl⟩ := look_renM hi hk
    rw [ren_live] at hv
    exact S.exc s o1 l g h1 hv (by rw [← hτ]; exact hl) hb
  · obtain ⟨s, o1, rfl, h1, rfl⟩ := look_renM hi hk
    obtain ⟨s', o1', rfl, h1', rfl⟩ := look_renM hi hk'
    rw [ren_live] at hv hv'
    rw [S.sep s s' o1 o1' l l' g h1 h1' hv hv' (by rw [← hτ]; exact hl) (by rw [← hτ]; exact hl') hb hb']
/-- The numbers of a callee's objects, told by the caller's. -/
def tau (rl : List (Nat × Nat)) (k N s : Nat) : Nat := if s < k then rho rl s else N + (s - k)
/-- Lists that are handed on to be read are published. -/
def frP (M : List (Nat × AO)) : List V → List V → List (Nat × AO)
  | v :: vs, u :: us => (match v with
    | .sl _ => frP (frV M u) vs us
    | .agg cs => if refsL cs = [] then frP (frV M u) vs us else frP M vs us
    | _ => frP M vs us)
  | _, _ => M
def covL (τ : Nat → Nat) (M : List (Nat × AO)) (k : Nat) : List V → List V → Prop
  | [], [] => True
  | v :: vs, u :: us => (cov τ M v u ∧ allLt k v.refs = true) ∧ covL τ M k vs us
  | _, _ => False
def argsOk (τ : Nat → Nat) (N : Nat) : List Nat → Prop
  | [] => True
  | s :: r => τ s < N ∧ argsOk τ N r
def memOk (τ : Nat → Nat) (M : List (Nat × AO)) (N : Nat) : List (Nat × AO) → Prop
  | [] => True
  | (s, o) :: r => (look (τ s) M = some (o.ren τ) ∧ allLt N (o.ren τ).refs = true) ∧ memOk τ M N r
/-- What a call must show: the caller's objects are as the callee wants them. -/
def fits (rl : List (Nat × Nat)) (M : List (Nat × AO)) (N : Nat) (us vs : List V) (m : List (Nat × AO)) (k : Nat) : Prop :=
  covL (tau rl k N) M k vs us ∧ argsOk (tau rl k N) N (List.range k) ∧ memOk (tau rl k N) M N m ∧ apart rl (List.range k)
section
variable {P : Program} {B : Base} {H : Imm} {φ : Nat → Option Value} {w : World} {τ : Nat → Nat}
theorem argsOk_ok {N : Nat} : ∀ {l : List Nat}, argsOk τ N l → ∀ s ∈ l, τ s < N
  | s' :: r, h, s, hs => by
    rcases List.mem_cons.1 hs with e | hs
    · rw [e]; exact h.1
    · exact argsOk_ok h.2 s hs
theorem memOk_ok {M : List (Nat × AO)} {N : Nat} : ∀ {m : List (Nat × AO)}, memOk τ M N m → ∀ s o, (s, o) ∈ m → look (τ s) M = some (o.ren τ) ∧ ∀ j ∈ (o.ren τ).refs, j < N
  | (s', o') :: r, h, s, o, hs => by
    rcases List.mem_cons.1 hs with he | hs
    · cases he; exact ⟨h.1.1, allLt_ok h.1.2⟩
    · exact memOk_ok h.2 s o hs
theorem covL_ok {M : List (Nat × AO)} {k N : Nat} {φ' : Nat → Option Value} (S : Sat B H φ M N w) (hφ : ∀ s, s < k → φ' s = φ (τ s)) : ∀ {vs us : List V} {cs : List Value}, covL τ M k vs us → RepL H φ us cs → RepL H φ' vs cs
  | [], [], cs, h, hr => ⟨hr.1, fun i a v e => by simp at e⟩
  | v :: vs, u :: us, cs, h, hr => by
    obtain ⟨c, cs', rfl⟩ : ∃ c cs', cs = c :: cs' := by
      cases cs with
      | nil => have := hr.1; simp at this
      | cons c cs' => exact ⟨c, cs', rfl⟩
    have h0 := cov_rep (φ' := φ') S h.1.1 (hr.2 0 u c rfl rfl) fun s hs => hφ s (allLt_ok h.1.2 s hs)
    have ih := covL_ok S hφ (vs := vs) (us := us) (cs := cs') h.2 ⟨by simpa using hr.1, fun i a v e1 e2 => hr.2 (i + 1) a v (by simpa using e1) (by simpa using e2)⟩
    refine ⟨by simp [ih.1], fun i x y e1 e2 => ?_⟩
    rcases i with _ | i
    · simp at e1 e2; subst e1; subst e2; exact h0
    · exact ih.2 i x y (by simpa using e1) (by simpa using e2)
  | [], u :: us, cs, h, hr => h.elim
  | v :: vs, [], cs, h, hr => h.elim
theorem frP_sat : ∀ (vs us : List V) {H : Imm} {M : List (Nat × AO)} {N : Nat} (_ : Sat B H φ M N w), ∃ H', H.le H' ∧ Sat B H' φ (frP M vs us) N w
  | [], us, H, M, N, S => ⟨H, Imm.le_refl _, by unfold frP; exact S⟩
  | v :: vs, [], H, M, N, S => ⟨H, Imm.le_refl _, by unfold frP; exact S⟩
  | v :: vs, u :: us, H, M, N, S => by
    unfold frP
    have fr : ∃ H', H.le H' ∧ Sat B H' φ (frP (frV M u) vs us) N w := by
      obtain ⟨H1, h1, S1⟩ := frC_sat u.cells S
      obtain ⟨H2, h2, S2⟩ := frP_sat vs us S1
      exact ⟨H2, Imm.le_trans h1 h2, S2⟩
    split
    · exact fr
    · split
      · exact fr
      · exact frP_sat vs us S
    · exact frP_sat vs us S
theorem look_renM_some {τ : Nat → Nat} (hi : ∀ a b, τ a = τ b → a = b) {s : Nat} {o : AO} : ∀ {m : List (Nat × AO)}, look s m = some o → look (τ s) (renM τ m) = some (o.ren τ)
  | [], h => by simp [look] at h
  | (s', o') :: r, h => by
    rw [look_cons] at h
    rw [renM, look_cons]
    split at h
    · rename_i e; subst e; cases h; rw [if_pos rfl]
    · rename_i e; rw [if_neg fun e' => e (hi _ _ e')]; exact look_renM_some hi h
/-- A call of a function by its contract. -/
theorem callK_fn {f : FuncId} {vs us : List V} {m m' M : List (Nat × AO)} {k k' N : Nat} {r : V} {K : V → List (Nat × AO) → Nat → Prop} (hf : Fn P f vs m k r m' k') (rl : List (Nat × Nat)) (h : fits rl (frP M vs us) N us vs m k)
    (hk : K (r.ren (tau rl k N)) (renM (tau rl k N) m' ++ frP M vs us) (N + (k' - k))) : CallK P f us M N K := by
  refine ⟨hf.en, fun B H φ w cargs hv S => ?_⟩
  obtain ⟨h1, h2, h3, h4⟩ := h
  obtain ⟨H1, hle1, S1⟩ := frP_sat vs us S
  generalize hM1 : frP M vs us = M1 at *
  have hN : ∀ s, s < k → tau rl k N s < N := fun s hs => argsOk_ok h2 s (List.mem_range.2 hs)
  have tinj : ∀ a b, tau rl k N a = tau rl k N b → a = b := by
    intro a b e
    by_cases ha : a < k
    · by_cases hb : b < k
      · unfold tau at e
        rw [if_pos ha, if_pos hb] at e
        exact apart_ok h4 a (List.mem_range.2 ha) b (List.mem_range.2 hb) e
      · have := hN a ha
        rw [e] at this
        unfold tau at this
        rw [if_neg hb] at this
        omega
    · by_cases hb : b < k
      · have := hN b hb
        rw [← e] at this
        unfold tau at this
        rw [if_neg ha] at this
        omega
      · unfold tau at e
        rw [if_neg ha, if_neg hb] at e
        omega
  have thigh : ∀ s, k ≤ s → tau rl k N s = N + (s - k) := fun s hs => by unfold tau; rw [if_neg (by omega)]
  generalize tau rl k N = τ at *
  have hbel := hf.bel
  have hms : ∀ t o, look t (renM τ m) = some o → look t M1 = some o ∧ t < N ∧ ∀ j ∈ o.refs, j < N := by
    intro t o ht
    obtain ⟨s, o1, rfl, g1, rfl⟩ := look_renM tinj ht
    obtain ⟨g2, g3⟩ := memOk_ok h3 s o1 (mem_of_look g1)
    exact ⟨g2, hN s (belowK_ok hbel s o1 (mem_of_look g1)).1, g3⟩
  have Ss := S1.sub hms
  let φc : Nat → Option Value := fun s => if s < k then φ (τ s) else none
  have hφc : ∀ s, s < k → φc s = φ (τ s) := fun s hs => if_pos hs
  have hcc : ∀ s, s < k → φc s = cutF φ N (τ s) := fun s hs => by rw [hφc s hs]; unfold cutF; rw [if_pos (hN s hs)]
  have Sc : Sat ⟨w, H1, mineOf φ (renM τ m), fun _ => none, 0⟩ H1 φc m k w :=
    Ss.re (σ := τ) (fun t o ht => ⟨look_renM_some tinj ht, hcc t (belowK_ok hbel t o (mem_of_look ht)).1, fun j hj => hcc j ((belowK_ok hbel t o (mem_of_look ht)).2 j hj)⟩)
      (fun t t' _ _ _ _ _ _ e => tinj t t' e) (fun t ht => if_neg (by omega)) ⟨Nat.zero_le _, fun s hs => absurd hs (Nat.not_lt_zero _)⟩
  have hargs := covL_ok (φ' := φc) S1 hφc h1 (hv.mono hle1 (fle_refl _))
  refine (hf.run _ H1 φc w cargs hargs Sc).mono ?_
  rintro e w' ⟨v, H', φ', rfl, hr, hle2, hext, S'⟩
  let φb : Nat → Option Value := fun t => if t < N then φ t else φ' (k + (t - N))
  have hτ : ∀ s, φb (τ s) = φ' s := by
    intro s
    by_cases hs : s < k
    · have : φb (τ s) = φ (τ s) := if_pos (hN s hs)
      rw [this, ← hφc s hs, hext.eq s hs]
    · have e1 := thigh s (by omega)
      have : φb (τ s) = φ' (k + (τ s - N)) := if_neg (by omega)
      rw [this, e1]; congr 1; omega
  have hkk := hf.kk
  have Sb := S'.fwd (n2 := N + (k' - k)) tinj hτ (fun t ht => by
    have : φb t = φ' (k + (t - N)) := if_neg (by omega)
    rw [this]; exact S'.new _ (by omega)) ⟨Nat.zero_le _, fun s hs => absurd hs (Nat.not_lt_zero _)⟩
  have hlow : ∀ s, s < N → φb s = φ s := fun s hs => if_pos hs
  have hcut : ∀ s, s < N → cutF φ N s = φ s := fun s hs => if_pos hs
  obtain ⟨J, f1, f2⟩ := Sat.join (S1.wide (Nat.le_add_right N (k' - k))) (n := N) (n' := N + (k' - k)) hms Sb ⟨fun s l hsl => by
      have hs : s < N := by
        refine Nat.lt_of_not_le fun hle => ?_
        unfold cutF at hsl; rw [if_neg (by omega)] at hsl; cases hsl
      rw [hlow s hs, ← hcut s hs]; exact hsl, fun s hs => by rw [hlow s hs, hcut s hs]⟩ (fun s g1 g2 => S1.new s g1) (Nat.le_refl _) (fun t ht => by
      obtain ⟨o, ho⟩ := Option.isSome_iff_exists.1 ht
      obtain ⟨s, o1, rfl, g1, _⟩ := look_renM tinj ho
      exact renM_some (keysIn_ok hf.inn (by rw [g1]; rfl))) S1.fix.1
  exact ⟨v, r.ren τ, _, _, H', _, rfl, hk, (rep_fwd hτ hr).mono (Imm.le_refl _) f2, Imm.le_trans hle1 hle2, ⟨f1, fun s hs => by unfold joinF; rw [if_neg (by omega)]⟩, J⟩
/-- The same, amid others. -/
theorem callF {f : FuncId} {vs us : List V} {m m' M : List (Nat × AO)} {k k' N : Nat} {r : V} {st : St} {dst : Option Nat} {K : St → Prop} (rl : List (Nat × Nat)) (hf : Fn P f vs m k r m' k') (h : fits rl (frP M vs us) N us vs m k)
    (hk : putK st dst (some (r.ren (tau rl k N))) (renM (tau rl k N) m' ++ frP M vs us) (N + (k' - k)) K) : CallK P f us M N (putR st dst K) := callK_fn hf rl h hk
theorem frP_new : ∀ (vs us : List V) (m : List (Nat × AO)), ∃ u, frP m vs us = u ++ m
  | [], us, m => ⟨[], by unfold frP; rfl⟩
  | v :: vs, [], m => ⟨[], by unfold frP; rfl⟩
  | v :: vs, u :: us, m => by
    have fr : ∃ x, frP (frV m u) vs us = x ++ m := by
      obtain ⟨a, ha⟩ := frA_new [u] m
      have ha' : frV m u = a ++ m := by simpa [frA] using ha
      obtain ⟨b, hb⟩ := frP_new vs us (frV m u)
      exact ⟨b ++ a, by rw [hb, ha', List.append_assoc]⟩
    unfold frP
    split
    · exact fr
    · split
      · exact fr
      · exact frP_new vs us m
    · exact frP_new vs us m
theorem callFD {f : FuncId} {vs us : List V} {m m' M : List (Nat × AO)} {k k' N : Nat} {r : V} {dst : Option Nat} {e : List (Nat × V)} {m0 : List (Nat × AO)} {done : List Chk} {st : St} {K : List Chk → St → Prop} (rl : List (Nat × Nat)) (hf : Fn P f vs m k r m' k') (h : fits rl (frP M vs us) N us vs m k) (h1 : decide (k' - k ≤ 1) = true)
    (hk : drNext dst e m0 done st K (some (r.ren (tau rl k N))) (new (renM (tau rl k N) m' ++ frP M vs us) M)) : CallD P f us M N (drR dst e m0 done st K) := by
  have h1' := of_decide_eq_true h1
  refine ⟨r.ren (tau rl k N), new (renM (tau rl k N) m' ++ frP M vs us) M, callK_fn hf rl h ⟨rfl, fun s x hx => ?_, by omega⟩, hk⟩
  obtain ⟨u, hu⟩ := frP_new vs us M
  have e : renM (tau rl k N) m' ++ frP M vs us = (renM (tau rl k N) m' ++ u) ++ M := by rw [hu, List.append_assoc]
  rw [e, new_append] at hx
  rw [e]; exact hx
end
attribute [simp] renM tau frP covL argsOk memOk fits keysIn belowK retF
end Go.Proofs.Ytalkadbpdaoifaa.AX
/- Calls by contract: whose object is whose, found by the values that are handed on. -/
namespace Go.Proofs.Ytalkadbpdaoifaa.AX
open Go Go.RowKit
set_option linter.unusedVariables false
set_option linter.unusedSimpArgs false
mutual
def matV : V → V → List (Nat × Nat)
  | .ptr s _, .ptr t _ => [(s, t)]
  | .ep s _ _ _, .ep t _ _ _ => [(s, t)]
  | .rf s, .rf t => [(s, t)]
  | .psl s _, .psl t _ => [(s, t)]
  | .agg cs, .agg ds => matL cs ds
  | .tup cs, .tup ds => matL cs ds
  | .fn _ cs, .fn _ ds => matL cs ds
  | _, _ => []
def matL : List V → List V → List (Nat × Nat)
  | a :: r, b :: q => matV a b ++ matL r q
  | _, _ => []
end
def matO : Option AO → Option AO → List (Nat × Nat)
  | some (.box _ _ cs), some (.box _ _ ds) => matL cs ds
  | some (.map kvs), some (.map qvs) => matL (kvs.map (·.2)) (qvs.map (·.2))
  | _, _ => []
def matM (m M : List (Nat × AO)) : List (Nat × Nat) → List (Nat × Nat)
  | [] => []
  | (s, t) :: r => matO (look s m) (look t M) ++ matM m M r
def guessR (vs us : List V) (m M : List (Nat × AO)) : List (Nat × Nat) :=
  let a := matL vs us
  let b := a ++ matM m M a
  b ++ matM m M b
section
variable {P : Program}
theorem callG {f : FuncId} {vs us : List V} {m m' M : List (Nat × AO)} {k k' N : Nat} {r : V} {st : St} {dst : Option Nat} {K : St → Prop} (hf : Fn P f vs m k r m' k') (h : fits (guessR vs us m M) (frP M vs us) N us vs m k)
    (hk : putK st dst (some (r.ren (tau (guessR vs us m M) k N))) (renM (tau (guessR vs us m M) k N) m' ++ frP M vs us) (N + (k' - k)) K) : CallK P f us M N (putR st dst K) := callF _ hf h hk
theorem callGD {f : FuncId} {vs us : List V} {m m' M : List (Nat × AO)} {k k' N : Nat} {r : V} {dst : Option Nat} {e : List (Nat × V)} {m0 : List (Nat × AO)} {done : List Chk} {st : St} {K : List Chk → St → Prop} (hf : Fn P f vs m k r m' k') (h : fits (guessR vs us m M) (frP M vs us) N us vs m k) (h1 : decide (k' - k ≤ 1) = true)
    (hk : drNext dst e m0 done st K (some (r.ren (tau (guessR vs us m M) k N))) (new (renM (tau (guessR vs us m M) k N) m' ++ frP M vs us) M)) : CallD P f us M N (drR dst e m0 done st K) := callFD _ hf h h1 hk
end
section
variable {P : Program} {draws : List Oper → (St → Prop) → St → Prop} {Q : Exit → St → Prop}
/-- A loop of which the names of K alone are of use, and stay; those of 'up' come about anew. -/
theorem aw_loopK {α : Type} (W : List Nat) (up : α → List (Nat × V)) (μ : α → Nat) (x : α) {c : Code} {e : List (Nat × V)} {m : List (Nat × AO)} {n t : Nat} (h0 : toC [] ⟨e, m, n, t⟩ n ⟨up x ++ pick e W, m, n, t⟩)
    (h : ∀ y, aw P draws c (exK Q (fun st' => ∃ z, μ z < μ y ∧ st'.to n ⟨up z ++ pick e W, m, n, t⟩)) ⟨up y ++ pick e W, m, n, t⟩) : aw P draws (.loop c) Q ⟨e, m, n, t⟩ :=
  aw_loop (fun y => ⟨up y ++ pick e W, m, n, t⟩) μ x (St.to_chk [] h0) h
theorem aw_loopKM {α : Type} (W : List Nat) (up : α → List (Nat × V)) (M : α → List (Nat × AO)) (n1 : Nat) (μ : α → Nat) (x : α) {c : Code} {e : List (Nat × V)} {m : List (Nat × AO)} {n t : Nat} (h0 : (St.mk e m n t).to n ⟨up x ++ pick e W, M x, n1, t⟩)
    (h : ∀ y, aw P draws c (exK Q (fun st' => ∃ z, μ z < μ y ∧ st'.to n ⟨up z ++ pick e W, M z, n1, t⟩)) ⟨up y ++ pick e W, M y, n1, t⟩) : aw P draws (.loop c) Q ⟨e, m, n, t⟩ :=
  aw_loop (fun y => ⟨up y ++ pick e W, M y, n1, t⟩) μ x h0 h
end
attribute [simp] matV matL matO matM guessR
end Go.Proofs.Ytalkadbpdaoifaa.AX
/- A nil list that is handed on to be appended to. -/
namespace Go.Proofs.Ytalkadbpdaoifaa.AX
open Go Go.RowKit
set_option linter.unusedVariables false
set_option linter.unusedSimpArgs false
/-- Handed on as nil, taken as a list of its own with nothing in it. -/
theorem callK_own {P : Program} (T z : Nat) {f : FuncId} {pre post : List V} {M : List (Nat × AO)} {N : Nat} {K : V → List (Nat × AO) → Nat → Prop} (h : CallK P f (pre ++ .rf N :: post) ((N, .row false T z []) :: M) (N + 1) K) : CallK P f (pre ++ .nl :: post) M N K := by
  refine ⟨h.en, fun B H φ w cargs hv S => ?_⟩
  have hnew := S.new N (Nat.le_refl _)
  have hf := fext_upd (Value.slice none 0 0) hnew
  have S' : Sat B H (upd φ N (.slice none 0 0)) ((N, .row false T z []) :: M) (N + 1) w :=
    S.push ⟨rfl, rfl, rfl, Nat.le_refl _, fun _ _ _ => rfl⟩ (Nat.le_refl _) (Nat.lt_succ_self _) ⟨[], ⟨by simp, .inl ⟨rfl, rfl⟩⟩, by simp, fun i e h => by simp at h⟩ (fun g hg => by cases hg)
  have hv' : RepL H (upd φ N (.slice none 0 0)) (pre ++ .rf N :: post) cargs := by
    refine ⟨by have := hv.1; simpa using this, fun i a v e1 e2 => ?_⟩
    by_cases hi : i = pre.length
    · subst hi
      rw [List.getElem?_append_right (Nat.le_refl _)] at e1
      simp at e1
      subst e1
      have hn := hv.2 pre.length .nl v (by rw [List.getElem?_append_right (Nat.le_refl _)]; simp) e2
      rw [rep_nl hn]
      exact .rf _ _ (upd_same _ _ _) rfl
    · have e1' : (pre ++ .nl :: post)[i]? = some a := by
        by_cases hl : i < pre.length
        · rw [List.getElem?_append_left hl] at e1 ⊢; exact e1
        · rw [List.getElem?_append_right (by omega)] at e1 ⊢
          obtain ⟨k, hk⟩ : ∃ k, i - pre.length = k + 1 := ⟨i - pre.length - 1, by omega⟩
          rw [hk] at e1 ⊢
          simpa using e1
      exact (hv.2 i a v e1' e2).mono (Imm.le_refl _) hf.le
  refine (h.run B H _ w cargs hv' S').mono ?_
  rintro e w' ⟨v, r, mem', nx', H', φ', a1, a2, a3, a4, a5, a6⟩
  exact ⟨v, r, mem', nx', H', φ', a1, a2, a3, a4, ⟨fle_trans hf.le a5.le, fun s hs => by rw [a5.eq s (by omega), hf.eq s hs]⟩, a6⟩
/-- The same calls, what must fit first. -/
theorem callH {P : Program} {f : FuncId} {vs us : List V} {m m' M : List (Nat × AO)} {k k' N : Nat} {r : V} {st : St} {dst : Option Nat} {K : St → Prop} (h : fits (guessR vs us m M) (frP M vs us) N us vs m k) (hf : Fn P f vs m k r m' k')
    (hk : putK st dst (some (r.ren (tau (guessR vs us m M) k N))) (renM (tau (guessR vs us m M) k N) m' ++ frP M vs us) (N + (k' - k)) K) : CallK P f us M N (putR st dst K) := callG hf h hk
theorem callHD {P : Program} {f : FuncId} {vs us : List V} {m m' M : List (Nat × AO)} {k k' N : Nat} {r : V} {dst : Option Nat} {e : List (Nat × V)} {m0 : List (Nat × AO)} {done : List Chk} {st : St} {K : List Chk → St → Prop} (h : fits (guessR vs us m M) (frP M vs us) N us vs m k) (hf : Fn P f vs m k r m' k') (h1 : decide (k' - k ≤ 1) = true)
    (hk : drNext dst e m0 done st K (some (r.ren (tau (guessR vs us m M) k N))) (new (renM (tau (guessR vs us m M) k N) m' ++ frP M vs us) M)) : CallD P f us M N (drR dst e m0 done st K) := callGD hf h h1 hk
end Go.Proofs.Ytalkadbpdaoifaa.AX
/- Regions that draw their order, an object frozen ahead of them. -/
namespace Go.Proofs.Ytalkadbpdaoifaa.AX
open Go Go.RowKit
set_option linter.unusedVariables false
set_option linter.unusedSimpArgs false
@[simp] def headDst : List Oper → Option Nat
  | o :: _ => o.dst
  | [] => none
def fzS (s : Nat) (mem : List (Nat × AO)) : List (Nat × AO) := match look s mem with
  | some (.box false T cs) => (s, .box true T cs) :: mem
  | some (.row false T z es) => (s, .row true T z es) :: mem
  | _ => mem
/-- As drawsP, but the region whose first instruction writes d begins with object s frozen. -/
def drawsFz (P : Program) (d s : Nat) (ops : List Oper) (K : St → Prop) (st : St) : Prop := drawsP P ops K (if headDst ops = some d then ⟨st.env, fzS s st.mem, st.nx, st.nt⟩ else st)
@[simp] theorem drawsFz_mk {P : Program} {d s : Nat} {ops : List Oper} {K : St → Prop} {e : List (Nat × V)} {m : List (Nat × AO)} {n t : Nat} : drawsFz P d s ops K ⟨e, m, n, t⟩ = drawsP P ops K ⟨e, if headDst ops = some d then fzS s m else m, n, t⟩ := by
  unfold drawsFz
  split <;> rfl
theorem fzS_sat {B : Base} {H : Imm} {φ : Nat → Option Value} {mem : List (Nat × AO)} {nx : Nat} {w : World} (S : Sat B H φ mem nx w) (s : Nat) : ∃ H', H.le H' ∧ Sat B H' φ (fzS s mem) nx w := by
  unfold fzS
  split
  · rename_i T cs hs
    have := frS_sat S hs rfl
    unfold frS at this
    rw [hs] at this
    exact this
  · rename_i T z es hs
    have := frS_sat S hs rfl
    unfold frS at this
    rw [hs] at this
    exact this
  · exact ⟨H, Imm.le_refl _, S⟩
theorem drawsFz_ok {P : Program} (h : DrawsOk P (drawsP P)) (d s : Nat) : DrawsOk P (drawsFz P d s) := by
  intro B id ops K Q st a w hq hs hK
  unfold drawsFz at hq
  split at hq
  · obtain ⟨H, φ, h1, h2, h3, S⟩ := hs
    obtain ⟨H', hle, S'⟩ := fzS_sat S s
    exact h B id ops K Q _ a w hq ⟨H', φ, h1, h2, fun t v hv => by
      obtain ⟨c, g1, g2⟩ := h3 t v hv
      exact ⟨c, g1, g2.mono hle (fle_refl _)⟩, S'⟩ hK
  · exact h B id ops K Q st a w hq hs hK
attribute [simp] fzS
end Go.Proofs.Ytalkadbpdaoifaa.AX
