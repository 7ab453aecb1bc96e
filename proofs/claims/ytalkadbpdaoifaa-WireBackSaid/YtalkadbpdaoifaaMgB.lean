/- A verified evaluator of code over values, its second part: states, walks, contracts. -/
import Derived.Test.YtalkadbpdaoifaaMgA
import Derived.Lib.SliceRun
/- Code, walked over states. -/
namespace Go.Proofs.Ytalkadbpdaoifaa.AX
open Go Go.RowKit
set_option linter.unusedVariables false
set_option linter.unusedSimpArgs false
structure St where
  env : List (Nat × V)
  mem : List (Nat × AO)
  nx : Nat
  nt : Nat
def SatX (B : Base) (H : Imm) (φ : Nat → Option Value) (st : St) (a : Act) (w : World) : Prop :=
  a.defers = [] ∧ a.tmps.size = st.nt ∧ EnvOk H φ st.env a.tmps ∧ Sat B H φ st.mem st.nx w
def SatA (B : Base) (st : St) (a : Act) (w : World) : Prop := ∃ H φ, SatX B H φ st a w
/-- What a step has come to, from H and φ on. -/
def Came (B : Base) (H : Imm) (φ : Nat → Option Value) (n : Nat) (K : St → Prop) (a : Act) (w : World) : Prop := ∃ st H' φ', H.le H' ∧ fext n φ φ' ∧ SatX B H' φ' st a w ∧ K st
/-- A function that can be called. -/
def enters (P : Program) (f : FuncId) : Bool := match P.funcs[f]? with
  | some fn => !(fn.name == "runtime.NumGoroutine") && fn.body.isSome
  | none => false
theorem enters_run {P : Program} {f : FuncId} (h : enters P f = true) (args : Array Value) (w : World) : (callFunc f args).run P w = .ok (.enter f args) w := by
  unfold enters at h
  split at h
  · rename_i fn hf
    simp only [Bool.and_eq_true, Bool.not_eq_true'] at h
    have h1 : fn.name ≠ "runtime.NumGoroutine" := by simpa using h.1
    obtain ⟨c, hc⟩ := Option.isSome_iff_exists.1 h.2
    simp [callFunc, hf, h1, hc]
  · cases h
/-- A call, from a state on. -/
structure CallK (P : Program) (f : FuncId) (vs : List V) (mem : List (Nat × AO)) (nx : Nat) (K : V → List (Nat × AO) → Nat → Prop) : Prop where
  en : enters P f = true
  run : ∀ (B : Base) (H : Imm) (φ : Nat → Option Value) (w : World) (cargs : List Value), RepL H φ vs cargs → Sat B H φ mem nx w →
    Calls P f cargs.toArray w fun e w' => ∃ v r mem' nx' H' φ', e = .returned v ∧ K r mem' nx' ∧ Rep H' φ' r v ∧ H.le H' ∧ fext nx φ φ' ∧ Sat B H' φ' mem' nx' w'
theorem CallK.mono {P : Program} {f : FuncId} {vs : List V} {mem : List (Nat × AO)} {nx : Nat} {K K' : V → List (Nat × AO) → Nat → Prop} (h : CallK P f vs mem nx K) (hk : ∀ r m n, K r m n → K' r m n) : CallK P f vs mem nx K' :=
  ⟨h.1, fun B H φ w cargs h1 h2 => (h.2 B H φ w cargs h1 h2).mono fun e w' ⟨v, r, mem', nx', H', φ', a, b, c⟩ => ⟨v, r, mem', nx', H', φ', a, hk _ _ _ b, c⟩⟩
def putK (st : St) (dst : Option Nat) (v : Option V) (mem : List (Nat × AO)) (nx : Nat) (K : St → Prop) : Prop :=
  match dst, v with
  | some d, some v => d < st.nt ∧ K ⟨(d, v) :: st.env, mem, nx, st.nt⟩
  | none, _ => K ⟨st.env, mem, nx, st.nt⟩
  | some _, none => False
def opK (P : Program) (o : Oper) (st : St) (K : St → Prop) : Prop :=
  match evO P st.env st.mem st.nx o.op with
  | some out => putK st o.dst out.v out.mem out.nx K
  | none => False
def putR (st : St) (dst : Option Nat) (K : St → Prop) (r : V) (mem : List (Nat × AO)) (nx : Nat) : Prop := putK st dst (some r) mem nx K
def callK (P : Program) (dst : Option Nat) (c : Operand) (args : List Operand) (st : St) (K : St → Prop) : Prop :=
  match valO st.env c, valL st.env args with
  | some (.fn f caps), some vs => CallK P f (vs ++ caps) st.mem st.nx (putR st dst K)
  | _, _ => False
/-- Is a slice nil? One that has something is not; of another one nobody can tell. -/
def nilK (P : Program) (o : Oper) (T : TypeId) (x y : Operand) (st : St) (K : St → Prop) : Prop :=
  match valO st.env x, valO st.env y, elemT P T with
  | some (.sl es), some .nl, some _ => (es = [] → putK st o.dst (some (.bool true)) st.mem st.nx K) ∧ putK st o.dst (some (.bool false)) st.mem st.nx K
  | _, _, _ => opK P o st K
def opN (P : Program) (o : Oper) (st : St) (K : St → Prop) : Prop :=
  match o.op with
  | .binOp .eql T x y _ => nilK P o T x y st K
  | _ => opK P o st K
def stepK (P : Program) (o : Oper) (st : St) (K : St → Prop) : Prop :=
  match o.op with
  | .call c => match c.callee with
    | .value f => callK P o.dst f c.args.toList st K
    | _ => opN P o st K
  | _ => opN P o st K
def skipK (o : Oper) (st : St) (K : St → Prop) : Prop := putK st o.dst (some (.tup [])) st.mem st.nx K
def guardD (all : List Oper) (j : Nat) : Option Nat := (all[j]?).bind (·.dst)
def St.set (st : St) (d : Nat) (v : V) : St := ⟨(d, v) :: st.env, st.mem, st.nx, st.nt⟩
def awOps (P : Program) (all : List Oper) (K : St → Prop) : List Oper → St → Prop
  | [], st => K st
  | o :: r, st =>
    match o.guard with
    | none => stepK P o st (awOps P all K r)
    | some (j, want) => match guardD all j with
      | some d => match look d st.env with
        | some (.bool b) => (b = want → stepK P o (st.set d (.bool want)) (awOps P all K r)) ∧ (b = !want → skipK o (st.set d (.bool !want)) (awOps P all K r))
        | some (.tup []) => skipK o st (awOps P all K r)
        | _ => False
      | none => False
/-- Fewer facts. -/
def St.le (s' s : St) : Prop := (∀ t v, look t s'.env = some v → look t s.env = some v) ∧ (∀ k o, look k s'.mem = some o → look k s.mem = some o) ∧ s'.nx = s.nx ∧ s'.nt = s.nt
section
variable {P : Program} {B : Base} {H : Imm} {φ : Nat → Option Value} {mem : List (Nat × AO)} {nx : Nat} {w : World}
theorem SatA.le {st st' : St} {a : Act} (h : SatA B st a w) (hl : st'.le st) : SatA B st' a w := by
  obtain ⟨H, φ, h1, h2, h3, h4⟩ := h
  obtain ⟨l1, l2, l3, l4⟩ := hl
  exact ⟨H, φ, h1, by rw [l4]; exact h2, fun t v hv => h3 t v (l1 t v hv), by rw [l3]; exact h4.fewer l2⟩
theorem rep_skip (H : Imm) (φ : Nat → Option Value) : Rep H φ (.tup []) undef := by
  have := Rep.tup (H := H) (φ := φ) [] [] rfl (fun i a v h => by simp at h)
  exact this
theorem putK_sat {st : St} {a : Act} {H' : Imm} {φ' : Nat → Option Value} {w' : World} (hd : a.defers = []) (hs : a.tmps.size = st.nt) (he : EnvOk H' φ' st.env a.tmps) {dst : Option Nat} {v : Option V} {c : Value} {mem' : List (Nat × AO)} {nx' : Nat}
    (hv : ∀ u, v = some u → Rep H' φ' u c) (S : Sat B H' φ' mem' nx' w') {K : St → Prop} (h : putK st dst v mem' nx' K) : ∃ st', SatX B H' φ' st' (a.put dst c) w' ∧ K st' := by
  unfold putK at h
  split at h
  · rename_i d u
    obtain ⟨h1, h2⟩ := h
    exact ⟨_, ⟨hd, by simpa [Act.put] using hs, he.put (by rw [hs]; exact h1) (hv u rfl), S⟩, h2⟩
  · exact ⟨⟨st.env, mem', nx', st.nt⟩, ⟨hd, hs, he, S⟩, h⟩
  · exact h.elim
/-- One operation, in the machine. -/
theorem opK_came {o : Oper} {st : St} {K : St → Prop} (h : opK P o st K) {a : Act} (hs : SatX B H φ st a w) {Q : Exit → Act → World → Prop} : o.wp P a w (Came B H φ st.nx K) Q := by
  obtain ⟨hd, hsz, he, S⟩ := hs
  unfold opK at h
  split at h
  · rename_i out hout
    unfold evO at hout
    split at hout
    · rename_i v hv
      cases hout
      obtain ⟨c, h1, h2⟩ := evV_run S he hv
      unfold Oper.wp
      rw [h1, Oper.upon_value]
      obtain ⟨st', g1, g2⟩ := putK_sat hd hsz he (fun u hu => by cases hu; exact h2) S h
      exact ⟨st', H, φ, Imm.le_refl _, fext_refl _ _, g1, g2⟩
    · obtain ⟨w', hr⟩ := evM_run S he hout
      rcases hr with ⟨c, h1, H', φ', hH, hφ, S', hv⟩ | ⟨h1, H', φ', hH, hφ, S', hv⟩
      · unfold Oper.wp
        rw [h1, Oper.upon_value]
        obtain ⟨st', g1, g2⟩ := putK_sat hd hsz (he.mono hH hφ.le) hv S' h
        exact ⟨st', H', φ', hH, hφ, g1, g2⟩
      · unfold Oper.wp
        rw [h1, Oper.upon_skip]
        obtain ⟨st', g1, g2⟩ := putK_sat hd hsz (he.mono hH hφ.le) hv S' h
        exact ⟨st', H', φ', hH, hφ, g1, g2⟩
  · exact h.elim
theorem RepL.append {cs ds : List V} {vs us : List Value} (h : RepL H φ cs vs) (g : RepL H φ ds us) : RepL H φ (cs ++ ds) (vs ++ us) := by
  refine ⟨by simp [h.1, g.1], fun i a v e1 e2 => ?_⟩
  by_cases hi : i < cs.length
  · rw [List.getElem?_append_left hi] at e1
    rw [List.getElem?_append_left (by rw [h.1]; exact hi)] at e2
    exact h.2 i a v e1 e2
  · rw [List.getElem?_append_right (by omega)] at e1
    rw [List.getElem?_append_right (by rw [h.1]; omega), h.1] at e2
    exact g.2 _ a v e1 e2
theorem opN_of {o : Oper} {st : St} {K : St → Prop} (h : opK P o st K) : opN P o st K := by
  unfold opN
  split
  · rename_i T x y q hop
    unfold nilK
    split
    · rename_i es e h1 h2 h3
      exfalso
      unfold opK evO at h
      rw [hop] at h
      simp [evV, evM, mpM, h1, h2, binV] at h
    · exact h
  · exact h
theorem opN_came {o : Oper} {st : St} {K : St → Prop} (h : opN P o st K) {a : Act} (hs : SatX B H φ st a w) {Q : Exit → Act → World → Prop} : o.wp P a w (Came B H φ st.nx K) Q := by
  unfold opN at h
  split at h
  · rename_i T x y q hop
    unfold nilK at h
    split at h
    · rename_i es e h1 h2 h3
      obtain ⟨hd, hsz, he, S⟩ := hs
      have r1 := valO_rep he h1
      have r2 := rep_nl (valO_rep he h2)
      obtain ⟨A, cc, e1, _, _, hA, _⟩ := repD_sl (rep_sl r1)
      have hrun : (execOp a.eval o).run P w = .ok (.value (.bool A.isNone)) w := by
        unfold execOp
        simp [hop, e1, r2, eqGuard, Lib.run_eql_slice_nil w T e A es.length cc 0 0 (elemT_under h3)]
      unfold Oper.wp
      rw [hrun, Oper.upon_value]
      have hb : putK st o.dst (some (.bool A.isNone)) st.mem st.nx K := by
        cases A with
        | none => exact h.1 (hA rfl).1
        | some _ => exact h.2
      obtain ⟨st', g1, g2⟩ := putK_sat hd hsz he (fun u hu => by cases hu; exact Rep.d _ _ (.bool _)) S hb
      exact ⟨st', H, φ, Imm.le_refl _, fext_refl _ _, g1, g2⟩
    · exact opK_came h hs
  · exact opK_came h hs
theorem stepK_came {o : Oper} {st : St} {K : St → Prop} (h : stepK P o st K) {a : Act} (hs : SatX B H φ st a w) {Q : Exit → Act → World → Prop} : o.wp P a w (Came B H φ st.nx K) Q := by
  unfold stepK at h
  split at h
  · rename_i c hop
    split at h
    · rename_i cl hcl
      unfold callK at h
      split at h
      · rename_i f caps vs hf hvs
        obtain ⟨hen, hc⟩ := h
        obtain ⟨hd, hsz, he, S⟩ := hs
        obtain ⟨cvs, e1, hcaps⟩ := rep_fn (valO_rep he hf)
        have hr := valL_rep he hvs
        have hcall := hc B H φ w (c.args.toList.map a.eval ++ cvs) (hr.append hcaps) S
        have harr : (c.args.toList.map a.eval ++ cvs).toArray = c.args.map a.eval ++ cvs.toArray := by
          apply Array.ext'
          simp
        rw [harr] at hcall
        have hrun : (execOp a.eval o).run P w = .ok (.enter f (c.args.map a.eval ++ cvs.toArray)) w := by
          unfold execOp
          simp [hop, resolve, hcl, Deferred.ofValue, invoke, e1, enters_run hen]
        unfold Oper.wp
        rw [hrun, Oper.upon_enter]
        refine hcall.mono fun e w' hh => ?_
        obtain ⟨v, r, mem', nx', H', φ', rfl, hK, hv, hH, hφ, S'⟩ := hh
        obtain ⟨st', g1, g2⟩ := putK_sat hd hsz (he.mono hH hφ.le) (fun u hu => by cases hu; exact hv) S' hK
        exact ⟨st', H', φ', hH, hφ, g1, g2⟩
      · exact h.elim
    · exact opN_came h hs
  · exact opN_came h hs
theorem stepK_sound {o : Oper} {st : St} {K : St → Prop} (h : stepK P o st K) {a : Act} (hs : SatA B st a w) {Q : Exit → Act → World → Prop} : o.wp P a w (fun a' w' => ∃ st', SatA B st' a' w' ∧ K st') Q := by
  obtain ⟨H, φ, hx⟩ := hs
  exact Oper.wp_mono (fun a' w' ⟨st', H', φ', _, _, h1, h2⟩ => ⟨st', ⟨H', φ', h1⟩, h2⟩) (stepK_came h hx)
theorem skipK_sound {o : Oper} {st : St} {K : St → Prop} (h : skipK o st K) {a : Act} (hs : SatA B st a w) : ∃ st', SatA B st' (a.put o.dst undef) w ∧ K st' := by
  obtain ⟨H, φ, hd, hsz, he, S⟩ := hs
  obtain ⟨st', g1, g2⟩ := putK_sat hd hsz he (fun u hu => by cases hu; exact rep_skip H φ) S h
  exact ⟨st', ⟨H, φ, g1⟩, g2⟩
theorem guard_rep {all : List Oper} {st : St} {a : Act} {H : Imm} {φ : Nat → Option Value} (he : EnvOk H φ st.env a.tmps) {j d : Nat} {v : V} (h1 : guardD all j = some d) (h2 : look d st.env = some v) : ∃ c, ((all.toArray[j]?).bind (·.dst)).bind (a.tmps[·]?) = some c ∧ Rep H φ v c := by
  unfold guardD at h1
  obtain ⟨c, h3, h4⟩ := he d v h2
  refine ⟨c, ?_, h4⟩
  have : all.toArray[j]? = all[j]? := by simp
  rw [this, h1]
  exact h3
theorem SatA.set {st : St} {a : Act} {d : Nat} {b c : Bool} (hs : SatA B st a w) (h : look d st.env = some (.bool b)) (hb : b = c) : SatA B (st.set d (.bool c)) a w := by
  subst hb
  refine hs.le ⟨fun t v hv => ?_, fun k o h => h, rfl, rfl⟩
  simp only [St.set, look_cons] at hv
  split at hv
  · rename_i e; subst e; rw [h]; exact hv
  · exact hv
theorem awOps_sound {all : List Oper} {K : St → Prop} {Q : Exit → Act → World → Prop} (hQ : ∀ st a w, SatA B st a w → K st → Q .normal a w) : ∀ (l : List Oper) (st : St) (a : Act) (w : World), SatA B st a w → awOps P all K l st → wpList P all.toArray Q l a w
  | [], st, a, w, hs, h => hQ st a w hs h
  | o :: r, st, a, w, hs, h => by
    have ih : ∀ (st : St) (a : Act) (w : World), SatA B st a w → awOps P all K r st → wpList P all.toArray Q r a w := awOps_sound hQ r
    unfold awOps at h
    split at h
    · rename_i hg
      exact wpList_plain hg fun K' hK' => Oper.wp_mono (fun a' w' ⟨st', h1, h2⟩ => hK' _ _ (ih st' a' w' h1 h2)) (stepK_sound h hs)
    · rename_i j want hg
      have hs' := hs
      obtain ⟨H, φ, hd, hsz, he, S⟩ := hs'
      split at h
      case h_2 => exact h.elim
      rename_i d hgd
      split at h
      · rename_i b hb
        obtain ⟨c, hc1, hc2⟩ := guard_rep he hgd hb
        have := rep_bool hc2
        subst this
        have hy : yielded all.toArray a.tmps j = some b := by unfold yielded; rw [hc1]
        refine wpList_step fun K' hK' => ?_
        by_cases hbw : b = want
        · have : Region.wanted o (yielded all.toArray a.tmps) = true := by simp [Region.wanted, hg, hy, hbw]
          rw [if_pos this]
          exact Oper.wp_mono (fun a' w' ⟨st', h1, h2⟩ => hK' _ _ (ih st' a' w' h1 h2)) (stepK_sound (h.1 hbw) (hs.set hb hbw))
        · have : Region.wanted o (yielded all.toArray a.tmps) = false := by simp [Region.wanted, hg, hy, hbw]
          rw [if_neg (by simp [this])]
          obtain ⟨st', h1, h2⟩ := skipK_sound (h.2 (by cases b <;> cases want <;> simp_all)) (hs.set hb (by cases b <;> cases want <;> simp_all))
          exact hK' _ _ (ih st' _ w h1 h2)
      · rename_i hb
        obtain ⟨c, hc1, hc2⟩ := guard_rep he hgd hb
        obtain ⟨vs, rfl, hv⟩ := rep_tup hc2
        have hy : yielded all.toArray a.tmps j = none := by unfold yielded; rw [hc1]
        refine wpList_step fun K' hK' => ?_
        have : Region.wanted o (yielded all.toArray a.tmps) = false := by simp [Region.wanted, hg, hy]
        rw [if_neg (by simp [this])]
        obtain ⟨st', h1, h2⟩ := skipK_sound h hs
        exact hK' _ _ (ih st' _ w h1 h2)
      · exact h.elim
end
/-! ### Code -/
def exK (Q : Exit → St → Prop) (N : St → Prop) : Exit → St → Prop
  | .normal, st => N st
  | e, st => Q e st
def blkK (id : Nat) (Q : Exit → St → Prop) : Exit → St → Prop
  | .exit i, st => if i = id then Q .normal st else Q (.exit i) st
  | e, st => Q e st
/-- Whatever one state is told of, the other one is, if the first b objects are to stand. -/
structure St.to (st : St) (b : Nat) (st' : St) : Prop where
  run : ∀ (B : Base) (a : Act) (w : World), B.n0 ≤ b → SatA B st a w → SatA B st' a w
/-- Rounds of a loop, one by one. -/
def rounds (body : St → (Exit → St → Prop) → Prop) (Q : Exit → St → Prop) : Nat → St → Prop
  | 0, _ => False
  | n + 1, st => body st (exK Q (rounds body Q n))
def aw (P : Program) (draws : List Oper → (St → Prop) → St → Prop) : Code → (Exit → St → Prop) → St → Prop
  | .skip, Q, st => Q .normal st
  | .seq a b, Q, st => aw P draws a (exK Q (aw P draws b Q)) st
  | .cond (.tmp t) x y, Q, st => match look t st.env with
    | some (.bool b) => (b = true → aw P draws x Q (st.set t (.bool true))) ∧ (b = false → aw P draws y Q (st.set t (.bool false)))
    | _ => False
  | .block id c, Q, st => aw P draws c (blkK id Q) st
  | .loop c, Q, st => (∃ n, rounds (fun st' Q' => aw P draws c Q' st') Q n st) ∨
      ∃ (α : Type) (I : α → St) (μ : α → Nat) (x : α), st.to st.nx (I x) ∧ ∀ y, aw P draws c (exK Q (fun st' => ∃ z, μ z < μ y ∧ st'.to st.nx (I z))) (I y)
  | .exit id, Q, st => Q (.exit id) st
  | .ret, Q, st => Q .ret st
  | .label _, Q, st => Q .normal st
  | .goto l, Q, st => Q (.goto l) st
  | .region _ ops false, Q, st => awOps P ops.toList (Q .normal) ops.toList st
  | .region _ ops true, Q, st => draws ops.toList (Q .normal) st
  | _, _, _ => False
end Go.Proofs.Ytalkadbpdaoifaa.AX
/- Code, walked over states: it is so in the machine. -/
namespace Go.Proofs.Ytalkadbpdaoifaa.AX
open Go Go.RowKit
set_option linter.unusedVariables false
set_option linter.unusedSimpArgs false
section
variable {P : Program} {B : Base}
def Lift (B : Base) (Q : Exit → St → Prop) : Exit → Act → World → Prop := fun e a w => ∃ st, SatA B st a w ∧ Q e st
/-- Rules for regions that draw their order. -/
def DrawsOk (P : Program) (draws : List Oper → (St → Prop) → St → Prop) : Prop :=
  ∀ (B : Base) (id : Nat) (ops : Array Oper) (K : St → Prop) (Q : Exit → Act → World → Prop) (st : St) (a : Act) (w : World), draws ops.toList K st → SatA B st a w → (∀ st' a' w', SatA B st' a' w' → K st' → Q .normal a' w') → (Code.region id ops true).wp P Q a w
theorem aw_sound {draws : List Oper → (St → Prop) → St → Prop} (hd : DrawsOk P draws) : ∀ (c : Code) (Q : Exit → St → Prop) (st : St) (a : Act) (w : World), aw P draws c Q st → SatA B st a w → c.wp P (Lift B Q) a w
  | .skip, Q, st, a, w, h, hs => wp_skip ⟨st, hs, h⟩
  | .label l, Q, st, a, w, h, hs => wp_label ⟨st, hs, h⟩
  | .goto l, Q, st, a, w, h, hs => wp_goto ⟨st, hs, h⟩
  | .ret, Q, st, a, w, h, hs => wp_ret ⟨st, hs, h⟩
  | .exit id, Q, st, a, w, h, hs => wp_exit ⟨st, hs, h⟩
  | .seq x y, Q, st, a, w, h, hs => by
    unfold aw at h
    refine wp_seq (wp_mono (aw_sound hd x _ st a w h hs) fun e a' w' ⟨st', h1, h2⟩ => ?_)
    cases e with
    | normal => exact aw_sound hd y Q st' a' w' h2 h1
    | exit i => exact ⟨st', h1, h2⟩
    | goto l => exact ⟨st', h1, h2⟩
    | ret => exact ⟨st', h1, h2⟩
    | panic c => exact ⟨st', h1, h2⟩
    | outgrown => exact ⟨st', h1, h2⟩
  | .cond (.tmp t) x y, Q, st, a, w, h, hs => by
    unfold aw at h
    split at h
    · rename_i b hb
      have hs' := hs
      obtain ⟨H, φ, hdf, hsz, he, S⟩ := hs'
      have hc := rep_bool (valO_rep (x := .tmp t) he hb)
      exact wp_cond_split hc (fun ht => aw_sound hd x Q _ a w (h.1 ht) (hs.set hb ht)) (fun hf => aw_sound hd y Q _ a w (h.2 hf) (hs.set hb hf))
    · exact h.elim
  | .cond (.const c) x y, Q, st, a, w, h, hs => by unfold aw at h; exact h.elim
  | .cond (.global g) x y, Q, st, a, w, h, hs => by unfold aw at h; exact h.elim
  | .cond (.func f) x y, Q, st, a, w, h, hs => by unfold aw at h; exact h.elim
  | .block id c, Q, st, a, w, h, hs => by
    unfold aw at h
    refine wp_block (wp_mono (aw_sound hd c _ st a w h hs) fun e a' w' ⟨st', h1, h2⟩ => ?_)
    cases e with
    | exit i =>
      simp only [blkK] at h2
      simp only [Exit.inBlock]
      split
      · rename_i hi; rw [if_pos hi] at h2; exact ⟨st', h1, h2⟩
      · rename_i hi; rw [if_neg hi] at h2; exact ⟨st', h1, h2⟩
    | normal => exact ⟨st', h1, h2⟩
    | goto l => exact ⟨st', h1, h2⟩
    | ret => exact ⟨st', h1, h2⟩
    | panic c => exact ⟨st', h1, h2⟩
    | outgrown => exact ⟨st', h1, h2⟩
  | .loop c, Q, st, a, w, h, hs => by
    unfold aw at h
    rcases h with ⟨n, hn⟩ | ⟨α, I, μ, x, hx, hr⟩
    · refine wp_loop_rounds n ?_
      have key : ∀ n st a w, rounds (fun st' Q' => aw P draws c Q' st') Q n st → SatA B st a w → Code.rounds P c (Lift B Q) n a w := by
        intro n
        induction n with
        | zero => intro st a w h _; exact h.elim
        | succ n ih =>
          intro st a w h hs
          refine wp_mono (aw_sound hd c _ st a w h hs) fun e a' w' ⟨st', h1, h2⟩ => ?_
          cases e with
          | normal => exact ih st' a' w' h2 h1
          | exit i => exact ⟨st', h1, h2⟩
          | goto l => exact ⟨st', h1, h2⟩
          | ret => exact ⟨st', h1, h2⟩
          | panic c => exact ⟨st', h1, h2⟩
          | outgrown => exact ⟨st', h1, h2⟩
      exact key n st a w hn hs
    · have hlo : B.n0 ≤ st.nx := by obtain ⟨H, φ, _, _, _, S⟩ := hs; exact S.fix.1
      refine wp_loop_ghost (fun n a w => ∃ y, μ y = n ∧ SatA B (I y) a w) (μ x) ⟨x, rfl, hx.run B a w hlo hs⟩ ?_
      rintro n a w ⟨y, rfl, hy⟩
      refine wp_mono (aw_sound hd c _ (I y) a w (hr y) hy) fun e a' w' ⟨st', h1, h2⟩ => ?_
      cases e with
      | normal =>
        obtain ⟨z, hz, hle⟩ := h2
        exact ⟨μ z, hz, z, rfl, hle.run B a' w' hlo h1⟩
      | exit i => exact ⟨st', h1, h2⟩
      | goto l => exact ⟨st', h1, h2⟩
      | ret => exact ⟨st', h1, h2⟩
      | panic c => exact ⟨st', h1, h2⟩
      | outgrown => exact ⟨st', h1, h2⟩
  | .region id ops false, Q, st, a, w, h, hs => by
    unfold aw at h
    have := awOps_sound (B := B) (Q := Lift B Q) (fun st a w h1 h2 => ⟨st, h1, h2⟩) ops.toList st a w hs h
    exact wp_region_list (by simpa using this)
  | .region id ops true, Q, st, a, w, h, hs => by
    unfold aw at h
    exact hd B id ops (Q .normal) (Lift B Q) st a w h hs (fun st' a' w' h1 h2 => ⟨st', h1, h2⟩)
  | .rangeFunc .., Q, st, a, w, h, hs => by unfold aw at h; exact h.elim
  | .scope _, Q, st, a, w, h, hs => by unfold aw at h; exact h.elim
  | .refuse _, Q, st, a, w, h, hs => by unfold aw at h; exact h.elim
/-- What a function hands back, as it stands. -/
def retV (P : Program) (env : List (Nat × V)) (mem : List (Nat × AO)) : ResultVar → Option V
  | .tmp t => look t env
  | .cell t T => match look t env with
    | some v => match placeV mem v with
      | some cs => ldV P T cs
      | none => none
    | none => none
def retL (P : Program) (env : List (Nat × V)) (mem : List (Nat × AO)) : List ResultVar → Option (List V)
  | [] => some []
  | r :: l => match retV P env mem r, retL P env mem l with
    | some v, some vs => some (v :: vs)
    | _, _ => none
end
end Go.Proofs.Ytalkadbpdaoifaa.AX
/- Functions that hand back a value without addresses: contracts, and calls of them. -/
namespace Go.Proofs.Ytalkadbpdaoifaa.AX
open Go Go.RowKit
set_option linter.unusedVariables false
set_option linter.unusedSimpArgs false
def fr1 (mem : List (Nat × AO)) : V → List (Nat × AO)
  | .rf s => match look s mem with
    | some (.row false _ _ _) => frS s mem
    | _ => mem
  | _ => mem
def frC (mem : List (Nat × AO)) : List V → List (Nat × AO)
  | [] => mem
  | a :: r => frC (fr1 mem a) r
def frV (mem : List (Nat × AO)) (v : V) : List (Nat × AO) := frC mem v.cells
def frA (mem : List (Nat × AO)) : List V → List (Nat × AO)
  | [] => mem
  | a :: r => frA (frV mem a) r
def purA (mem : List (Nat × AO)) : List V → Option (List V)
  | [] => some []
  | a :: r => match pur mem a, purA mem r with
    | some x, some l => some (x :: l)
    | _, _ => none
def flat1 : V → Bool
  | .int .. | .bool _ | .str _ | .nilp | .nili | .nilm | .nilf => true
  | _ => false
def flatA : List V → Bool
  | [] => true
  | a :: r => (match a with | .agg cs => cs.all flat1 | v => flat1 v) && flatA r
def unT : V → List V
  | .tup vs => vs
  | v => [v]
def flat (v : V) : Bool := flatA (unT v)
def mkT : List V → V
  | [v] => v
  | vs => .tup vs
def φ0 : Nat → Option Value := fun _ => none
/-- A function that only computes: whatever is handed in, 'R' holds of what it hands back. -/
def PureQ (P : Program) (f : FuncId) (args : List V) (R : V → Prop) : Prop :=
  enters P f = true ∧ ∀ (H : Imm) (w : World) (cargs : List Value), RepL H φ0 args cargs → (∀ k o, H k = some o → w.heap[k]? = some o) →
    Calls P f cargs.toArray w fun e w' => ∃ v r H', e = .returned v ∧ R r ∧ Rep H' φ0 r v ∧ H.le H' ∧ (∀ k o, H' k = some o → w'.heap[k]? = some o) ∧ (∀ k o, H' k = some o → H k = some o ∨ w.heap.size ≤ k) ∧ w.grownBy w' none
def Pure (P : Program) (f : FuncId) (args : List V) (r : V) : Prop := PureQ P f args (· = r)
theorem PureQ.mono {P : Program} {f : FuncId} {args : List V} {R R' : V → Prop} (h : PureQ P f args R) (hr : ∀ r, R r → R' r) : PureQ P f args R' :=
  ⟨h.1, fun H w cargs h1 h2 => (h.2 H w cargs h1 h2).mono fun e w' ⟨v, r, H', a, b, c⟩ => ⟨v, r, H', a, hr _ b, c⟩⟩
section
variable {P : Program} {B : Base} {H : Imm} {φ : Nat → Option Value} {mem : List (Nat × AO)} {nx : Nat} {w : World}
theorem fr1_sat (S : Sat B H φ mem nx w) (v : V) : ∃ H', H.le H' ∧ Sat B H' φ (fr1 mem v) nx w := by
  unfold fr1
  split
  · split
    · rename_i hs
      exact frS_sat S hs rfl
    · exact ⟨H, Imm.le_refl _, S⟩
  · exact ⟨H, Imm.le_refl _, S⟩
theorem frC_sat : ∀ (cs : List V) {H : Imm} {mem : List (Nat × AO)} (_ : Sat B H φ mem nx w), ∃ H', H.le H' ∧ Sat B H' φ (frC mem cs) nx w
  | [], H, mem, S => ⟨H, Imm.le_refl _, S⟩
  | a :: r, H, mem, S => by
    obtain ⟨H1, h1, S1⟩ := fr1_sat S a
    obtain ⟨H2, h2, S2⟩ := frC_sat r S1
    exact ⟨H2, Imm.le_trans h1 h2, S2⟩
theorem frA_sat : ∀ (vs : List V) {H : Imm} {mem : List (Nat × AO)} (_ : Sat B H φ mem nx w), ∃ H', H.le H' ∧ Sat B H' φ (frA mem vs) nx w
  | [], H, mem, S => ⟨H, Imm.le_refl _, S⟩
  | a :: r, H, mem, S => by
    obtain ⟨H1, h1, S1⟩ := frC_sat a.cells S
    obtain ⟨H2, h2, S2⟩ := frA_sat r S1
    exact ⟨H2, Imm.le_trans h1 h2, S2⟩
theorem purA_rep (S : Sat B H φ mem nx w) : ∀ {vs args : List V} (_ : purA mem vs = some args) {cs : List Value} (_ : RepL H φ vs cs), RepL H φ0 args cs
  | [], _, h, cs, hv => by cases h; exact ⟨hv.1, fun i a v h => by simp at h⟩
  | a :: r, args, h, cs, hv => by
    unfold purA at h
    split at h
    · rename_i x l h1 h2
      cases h
      obtain ⟨c, cs', rfl⟩ : ∃ c cs', cs = c :: cs' := by
        cases cs with
        | nil => simp [RepL] at hv
        | cons c cs' => exact ⟨c, cs', rfl⟩
      have hr : RepL H φ r cs' := ⟨by simpa using hv.1, fun i a' v' e1 e2 => hv.2 (i + 1) a' v' (by simpa using e1) (by simpa using e2)⟩
      have ih := purA_rep S h2 hr
      refine ⟨by simp [ih.1], fun i a' v' e1 e2 => ?_⟩
      rcases i with _ | i
      · simp at e1 e2
        subst e1; subst e2
        exact .d _ _ (pur_rep S h1 (hv.2 0 a c rfl rfl))
      · exact ih.2 i a' v' (by simpa using e1) (by simpa using e2)
    · cases h
theorem flat1_rep {H' : Imm} {φ' : Nat → Option Value} {v : V} {c : Value} (h : flat1 v = true) (hv : Rep H φ v c) : Rep H' φ' v c := by
  cases v <;> simp [flat1] at h
  · rw [rep_int hv]; exact .d _ _ (by constructor)
  · rw [rep_bool hv]; exact .d _ _ (by constructor)
  · rw [rep_str hv]; exact .d _ _ (by constructor)
  · rw [rep_nilp hv]; exact .d _ _ (by constructor)
  · rw [rep_nili hv]; exact .d _ _ (by constructor)
  · rw [rep_nilm hv]; exact .d _ _ (by constructor)
  · rw [rep_nilf hv]; exact .d _ _ (by constructor)
theorem flatO_rep {H' : Imm} {φ' : Nat → Option Value} {v : V} {c : Value} (h : (match v with | .agg cs => cs.all flat1 | v => flat1 v) = true) (hv : Rep H φ v c) : Rep H' φ' v c := by
  split at h
  · obtain ⟨vs, rfl, hl, hc⟩ := rep_agg hv
    exact .agg _ _ hl.1 (fun i a x h1 h2 => flat1_rep (List.all_eq_true.1 h a (List.mem_of_getElem? h1)) (hl.2 i a x h1 h2)) hc
  · exact flat1_rep h hv
theorem flatA_rep {H' : Imm} {φ' : Nat → Option Value} : ∀ {vs : List V} {cs : List Value}, flatA vs = true → RepL H φ vs cs → RepL H' φ' vs cs
  | [], cs, _, hv => ⟨hv.1, fun i a v h => by simp at h⟩
  | a :: r, cs, h, hv => by
    unfold flatA at h
    simp only [Bool.and_eq_true] at h
    obtain ⟨c, cs', rfl⟩ : ∃ c cs', cs = c :: cs' := by
      cases cs with
      | nil => simp [RepL] at hv
      | cons c cs' => exact ⟨c, cs', rfl⟩
    have hr : RepL H φ r cs' := ⟨by simpa using hv.1, fun i a' v' e1 e2 => hv.2 (i + 1) a' v' (by simpa using e1) (by simpa using e2)⟩
    have ih := flatA_rep (H' := H') (φ' := φ') h.2 hr
    refine ⟨by simp [ih.1], fun i a' v' e1 e2 => ?_⟩
    rcases i with _ | i
    · simp at e1 e2
      subst e1; subst e2
      exact flatO_rep h.1 (hv.2 0 a c rfl rfl)
    · exact ih.2 i a' v' (by simpa using e1) (by simpa using e2)
theorem flat_rep {H' : Imm} {φ' : Nat → Option Value} {v : V} {c : Value} (h : flat v = true) (hv : Rep H φ v c) : Rep H' φ' v c := by
  unfold flat unT at h
  split at h
  · obtain ⟨vs, rfl, hl⟩ := rep_tup hv
    have := flatA_rep (H' := H') (φ' := φ') h hl
    exact .tup _ _ this.1 this.2
  · unfold flatA at h
    simp only [Bool.and_eq_true] at h
    exact flatO_rep h.1 hv
/-- More memory stays as it is. -/
theorem Sat.more (S : Sat B H φ mem nx w) {w' : World} (hg : w.grownBy w' none) {H' : Imm} (hle : H.le H') (hi : ∀ k o, H' k = some o → w'.heap[k]? = some o) (hn : ∀ k o, H' k = some o → H k = some o ∨ w.heap.size ≤ k) : Sat B H' φ mem nx w' := by
  have S' := S.grown hg
  refine ⟨hi, ?_, S'.new, ?_, S'.sep, S'.os, S'.tape, S'.output, S'.size, S'.kept, Imm.le_trans S'.him hle, ?_, S'.fix⟩
  · intro s o hs
    obtain ⟨l, h1, h2⟩ := S'.obj s o hs
    exact ⟨l, h1, h2.mono hle (fle_refl _)⟩
  · intro s o l g hs hv hl hb
    obtain ⟨h1, h2⟩ := S'.exc s o l g hs hv hl hb
    refine ⟨?_, h2⟩
    cases hH : H' g with
    | none => rfl
    | some x =>
      rcases hn g x hH with h | h
      · rw [h1] at h; cases h
      · obtain ⟨l2, h3, h4⟩ := S.obj s o hs
        rw [hl] at h3; cases h3
        have := h4.blk_lt hv hb
        omega
  · intro k o hk
    rcases hn k o hk with h | h
    · exact S'.hne k o h
    · exact .inr (.inl (Nat.le_trans S.size h))
theorem callK_pureQ {f : FuncId} {vs args : List V} {R : V → Prop} {K : V → List (Nat × AO) → Nat → Prop} (hp : PureQ P f args R) (ha : purA (frA mem vs) vs = some args) (hk : ∀ r, R r → K r (if flat r = true then mem else frA mem vs) nx) : CallK P f vs mem nx K := by
  refine ⟨hp.1, fun B H φ w cargs hv S => ?_⟩
  obtain ⟨H1, hle1, S1⟩ := frA_sat vs S
  have hv1 := purA_rep S1 ha (hv.mono hle1 (fle_refl _))
  refine (hp.2 H1 w cargs hv1 S1.imm).mono ?_
  rintro e w' ⟨v, r, H2, rfl, hR, hr, hle2, hi, hn, hg⟩
  by_cases hf : flat r = true
  · refine ⟨v, r, mem, nx, H, φ, rfl, by have := hk r hR; rwa [if_pos hf] at this, flat_rep hf hr, Imm.le_refl _, fext_refl _ _, S.grown hg⟩
  · refine ⟨v, r, frA mem vs, nx, H2, φ, rfl, by have := hk r hR; rwa [if_neg hf] at this, hr.mono (Imm.le_refl _) (fun s l h => by cases h), Imm.le_trans hle1 hle2, fext_refl _ _, S1.more hg hle2 hi hn⟩
theorem callK_pure {f : FuncId} {vs args : List V} {r : V} {K : V → List (Nat × AO) → Nat → Prop} (hp : Pure P f args r) (ha : purA (frA mem vs) vs = some args) (hk : K r (if flat r = true then mem else frA mem vs) nx) : CallK P f vs mem nx K :=
  callK_pureQ hp ha fun r' e => by subst e; exact hk
/-! ### Returning -/
theorem retV_run (S : Sat B H φ mem nx w) {env : List (Nat × V)} {tmps : Array Value} (he : EnvOk H φ env tmps) {r : ResultVar} {v : V} (h : retV P env mem r = some v) :
    ∃ c, ((match r with | .tmp t => Pure.pure (tmps.getD t undef) | .cell a t => do loadVar t (← asAddr (tmps.getD a undef)) : Sem Value)).run P w = .ok c w ∧ Rep H φ v c := by
  cases r with
  | tmp t =>
    obtain ⟨c, h1, h2⟩ := he t v h
    exact ⟨c, by simp [h1], h2⟩
  | cell t T =>
    simp only [retV] at h
    split at h
    · rename_i p hp
      split at h
      · rename_i cs hcs
        obtain ⟨c, h1, h2⟩ := he t p hp
        obtain ⟨ad, u, rfl, hu, hr, hc⟩ := place_rep S hcs h2
        obtain ⟨x, g1, g2⟩ := run_loadVar_sound h hu hr hc
        exact ⟨x, by simp [h1, asAddr, g1], g2⟩
      · cases h
    · cases h
theorem retL_run (S : Sat B H φ mem nx w) {env : List (Nat × V)} {tmps : Array Value} (he : EnvOk H φ env tmps) : ∀ {rs : List ResultVar} {vs : List V}, retL P env mem rs = some vs →
    ∃ cs, (rs.mapM (fun r => (match r with | .tmp t => Pure.pure (tmps.getD t undef) | .cell a t => do loadVar t (← asAddr (tmps.getD a undef)) : Sem Value))).run P w = .ok cs w ∧ RepL H φ vs cs
  | [], vs, h => by cases h; exact ⟨[], by simp, rfl, fun i a v h => by simp at h⟩
  | r :: l, vs, h => by
    unfold retL at h
    split at h
    · rename_i v vs' h1 h2
      cases h
      obtain ⟨c, g1, g2⟩ := retV_run S he h1
      obtain ⟨cs, g3, g4⟩ := retL_run S he h2
      refine ⟨c :: cs, ?_, by simp [g4.1], fun i a x e1 e2 => ?_⟩
      · rw [List.mapM_cons]
        simp only [Sem.run_bind, g1, g3, Result.andThen_ok, Sem.run_pure]
      · rcases i with _ | i
        · simp at e1 e2; subst e1; subst e2; exact g2
        · exact g4.2 i a x (by simpa using e1) (by simpa using e2)
    · cases h
theorem results_run (S : Sat B H φ mem nx w) {env : List (Nat × V)} {tmps : Array Value} (he : EnvOk H φ env tmps) {fn : Func} {vs : List V} (h : retL P env mem fn.results.toList = some vs) :
    ∃ cs, (results fn tmps).run P w = .ok (if cs.length = 1 then cs.headD undef else .tuple cs.toArray) w ∧ RepL H φ vs cs := by
  obtain ⟨cs, h1, h2⟩ := retL_run S he h
  refine ⟨cs, ?_, h2⟩
  unfold results
  simp only [Sem.run_bind]
  rw [Array.mapM_eq_mapM_toList]
  simp only [Sem.run_map]
  erw [h1]
  simp only [Result.andThen_ok, Sem.run_pure]
  congr 1
  by_cases hl : cs.length = 1
  · obtain ⟨x, rfl⟩ := one_list hl
    simp
  · simp [hl]
end
end Go.Proofs.Ytalkadbpdaoifaa.AX
/- A function's contract out of its code. -/
namespace Go.Proofs.Ytalkadbpdaoifaa.AX
open Go Go.RowKit
set_option linter.unusedVariables false
set_option linter.unusedSimpArgs false
def env0 : Nat → List V → List (Nat × V)
  | _, [] => []
  | k, v :: r => (k, v) :: env0 (k + 1) r
def frR (mem : List (Nat × AO)) (vs : List V) : List (Nat × AO) := frA mem vs
def mkR (vs : List V) : V := mkT vs
/-- What a return must show: 'R' of what is handed back. -/
def retOk (P : Program) (res : List ResultVar) (R : V → Prop) : Exit → St → Prop
  | .normal, st | .ret, st => match retL P st.env st.mem res with
    | some vs => match purA (frA st.mem vs) vs with
      | some rs => R (mkT rs)
      | none => False
    | none => False
  | _, _ => False
section
variable {P : Program}
theorem env0_ok {H : Imm} {φ : Nat → Option Value} (pre : List Value) : ∀ {args : List V} {cargs : List Value} (n : Nat), RepL H φ args cargs → EnvOk H φ (env0 pre.length args) ((pre ++ cargs).toArray ++ Array.replicate n undef)
  | [], _, n, h => fun t v hv => by simp [env0, look] at hv
  | a :: r, cs, n, h => by
    obtain ⟨c, cs', rfl⟩ : ∃ c cs', cs = c :: cs' := by
      cases cs with
      | nil => simp [RepL] at h
      | cons c cs' => exact ⟨c, cs', rfl⟩
    have hr : RepL H φ r cs' := ⟨by simpa using h.1, fun i a' v' e1 e2 => h.2 (i + 1) a' v' (by simpa using e1) (by simpa using e2)⟩
    have ih := env0_ok (H := H) (φ := φ) (pre ++ [c]) n hr
    intro t v hv
    rw [env0, look_cons] at hv
    split at hv
    · rename_i e; subst e; cases hv
      refine ⟨c, ?_, h.2 0 a c rfl rfl⟩
      rw [Array.getElem?_append_left (by simp)]
      simp
    · have := ih t v (by simpa using hv)
      simpa using this
theorem mkT_rep {H : Imm} {vs : List V} {cs : List Value} (h : RepL H φ0 vs cs) : Rep H φ0 (mkT vs) (if cs.length = 1 then cs.headD undef else .tuple cs.toArray) := by
  have hl := h.1
  match vs, cs, hl, h with
  | [v], [c], _, h => exact h.2 0 v c rfl rfl
  | [], [], _, h => exact .tup _ _ h.1 h.2
  | a :: b :: r, c :: d :: q, _, h =>
    have : (c :: d :: q).length ≠ 1 := by simp
    rw [if_neg this]
    exact .tup _ _ h.1 h.2
/-- THE CONTRACT of a function that only computes. -/
theorem pureQ_of_aw {draws : List Oper → (St → Prop) → St → Prop} (hd : DrawsOk P draws) {f : FuncId} {fn : Func} {c : Code} {args : List V} {R : V → Prop} (hf : P.funcs[f]? = some fn) (hb : fn.body = some c) (hn : (fn.name == "runtime.NumGoroutine") = false)
    {res : List ResultVar} (hres : fn.results.toList = res) {nt : Nat} (hntm : fn.ntmps = nt)
    (hnt : decide (args.length ≤ nt) = true) (h : aw P draws c (retOk P res R) ⟨env0 0 args, [], 0, nt⟩) : PureQ P f args R := by
  subst hres
  subst hntm
  replace hnt := of_decide_eq_true hnt
  refine ⟨by simp [enters, hf, hn, hb], fun H w cargs hv hi => ?_⟩
  refine calls_of_wp hf hb ?_
  have hs : SatA ⟨w, H, fun _ => False, fun _ => none, 0⟩ ⟨env0 0 args, [], 0, fn.ntmps⟩ { tmps := cargs.toArray ++ Array.replicate (fn.ntmps - cargs.toArray.size) undef, defers := [] } w := by
    refine ⟨H, φ0, rfl, ?_, by simpa using env0_ok (H := H) (φ := φ0) [] (fn.ntmps - cargs.length) hv, ?_⟩
    · have := hv.1; simp; omega
    · exact ⟨hi, fun s o h => by simp [look] at h, fun s _ => rfl, fun s o l g h => by simp [look] at h, fun s s' o o' l l' g h => by simp [look] at h, rfl, rfl, rfl, Nat.le_refl _, fun k _ _ => rfl, Imm.le_refl _, fun k o h => .inl h, Nat.le_refl _, fun s hs => absurd hs (Nat.not_lt_zero _)⟩
  refine wp_mono (aw_sound hd c _ _ _ w h hs) fun e a' w' ⟨st, h1, h2⟩ => ?_
  have fin : ∀ {e' : Exit}, (e' = .normal ∨ e' = .ret) → retOk P fn.results.toList R e' st → a'.defers = [] ∧ ∃ v, (results fn a'.tmps).run P w' = .ok v w' ∧ ∃ x r H', Ending.returned v = .returned x ∧ R r ∧ Rep H' φ0 r x ∧ H.le H' ∧ (∀ k o, H' k = some o → w'.heap[k]? = some o) ∧ (∀ k o, H' k = some o → H k = some o ∨ w.heap.size ≤ k) ∧ w.grownBy w' none := by
    intro e' he' hq
    have hq' : match retL P st.env st.mem fn.results.toList with
        | some vs => match purA (frA st.mem vs) vs with
          | some rs => R (mkT rs)
          | none => False
        | none => False := by rcases he' with rfl | rfl <;> exact hq
    obtain ⟨H1, φ1, hdf, hsz, he, S⟩ := h1
    split at hq'
    · rename_i vs hvs
      split at hq'
      · rename_i rs hrs
        obtain ⟨cs, hr, hl⟩ := results_run S he hvs
        obtain ⟨H2, hle, S2⟩ := frA_sat vs S
        have hp := purA_rep S2 hrs (hl.mono hle (fle_refl _))
        refine ⟨hdf, _, hr, _, mkT rs, H2, rfl, hq', mkT_rep hp, S2.him, S2.imm, fun k o hk => ?_, ⟨S2.os, S2.tape, S2.output, S2.size, fun k hk _ => S2.kept k hk (fun h => h)⟩⟩
        rcases S2.hne k o hk with h | h | h
        · exact .inl h
        · exact .inr h
        · exact h.elim
      · exact hq'.elim
    · exact hq'.elim
  cases e with
  | normal => exact fin (.inl rfl) h2
  | ret => exact fin (.inr rfl) h2
  | exit i => exact h2.elim
  | goto l => exact h2.elim
  | panic c => exact h2.elim
  | outgrown => exact h2.elim
end
end Go.Proofs.Ytalkadbpdaoifaa.AX
/- Rules by which a walk is reckoned. -/
namespace Go.Proofs.Ytalkadbpdaoifaa.AX
open Go Go.RowKit
set_option linter.unusedVariables false
set_option linter.unusedSimpArgs false
/-- A parting of the ways. -/
def br (b : Bool) (p q : Prop) : Prop := (b = true → p) ∧ (b = false → q)
@[simp ↓] theorem br_true (p q : Prop) : br true p q = p := by simp [br]
@[simp ↓] theorem br_false (p q : Prop) : br false p q = q := by simp [br]
@[simp] theorem br_eq (b : Bool) (p q : Prop) : br b p q = ((b = true → p) ∧ (b = false → q)) := rfl
def oK (x : Option Out) (dst : Option Nat) (st : St) (K : St → Prop) : Prop := match x with
  | some out => putK st dst out.v out.mem out.nx K
  | none => False
def vK (P : Program) (op : Op) (x : Option V) (dst : Option Nat) (st : St) (K : St → Prop) : Prop := match x with
  | some v => putK st dst (some v) st.mem st.nx K
  | none => oK (evM P st.env st.mem st.nx op) dst st K
@[simp] theorem oK_some (out : Out) (dst : Option Nat) (st : St) (K : St → Prop) : oK (some out) dst st K = putK st dst out.v out.mem out.nx K := rfl
@[simp] theorem oK_none (dst : Option Nat) (st : St) (K : St → Prop) : oK none dst st K = False := rfl
@[simp] theorem oK_ite (c : Prop) [Decidable c] (x y : Option Out) (dst : Option Nat) (st : St) (K : St → Prop) : oK (if c then x else y) dst st K = if c then oK x dst st K else oK y dst st K := by split <;> rfl
@[simp] theorem vK_some (P : Program) (op : Op) (v : V) (dst : Option Nat) (K : St → Prop) (e : List (Nat × V)) (m : List (Nat × AO)) (n t : Nat) : vK P op (some v) dst ⟨e, m, n, t⟩ K = putK ⟨e, m, n, t⟩ dst (some v) m n K := rfl
@[simp] theorem vK_none (P : Program) (op : Op) (dst : Option Nat) (K : St → Prop) (e : List (Nat × V)) (m : List (Nat × AO)) (n t : Nat) : vK P op none dst ⟨e, m, n, t⟩ K = oK (evM P e m n op) dst ⟨e, m, n, t⟩ K := rfl
@[simp] theorem vK_ite (P : Program) (op : Op) (c : Prop) [Decidable c] (x y : Option V) (dst : Option Nat) (st : St) (K : St → Prop) : vK P op (if c then x else y) dst st K = if c then vK P op x dst st K else vK P op y dst st K := by split <;> rfl
section
variable {P : Program} {draws : List Oper → (St → Prop) → St → Prop} {Q : Exit → St → Prop} {K : St → Prop} {all r : List Oper} {o : Oper} {e : List (Nat × V)} {m : List (Nat × AO)} {n t : Nat}
@[simp] theorem aw_skip : aw P draws .skip Q ⟨e, m, n, t⟩ = Q .normal ⟨e, m, n, t⟩ := rfl
@[simp] theorem aw_seq (a b : Code) : aw P draws (.seq a b) Q ⟨e, m, n, t⟩ = aw P draws a (exK Q (aw P draws b Q)) ⟨e, m, n, t⟩ := rfl
@[simp] theorem aw_cond (c : Nat) (x y : Code) : aw P draws (.cond (.tmp c) x y) Q ⟨e, m, n, t⟩ = (match look c e with
    | some (.bool b) => br b (aw P draws x Q ⟨(c, .bool true) :: e, m, n, t⟩) (aw P draws y Q ⟨(c, .bool false) :: e, m, n, t⟩)
    | _ => False) := by
  simp only [aw]
  rfl
@[simp] theorem aw_block (id : Nat) (c : Code) : aw P draws (.block id c) Q ⟨e, m, n, t⟩ = aw P draws c (blkK id Q) ⟨e, m, n, t⟩ := rfl
@[simp] theorem aw_exit (id : Nat) : aw P draws (.exit id) Q ⟨e, m, n, t⟩ = Q (.exit id) ⟨e, m, n, t⟩ := rfl
@[simp] theorem aw_ret : aw P draws .ret Q ⟨e, m, n, t⟩ = Q .ret ⟨e, m, n, t⟩ := rfl
@[simp] theorem aw_label (l : Nat) : aw P draws (.label l) Q ⟨e, m, n, t⟩ = Q .normal ⟨e, m, n, t⟩ := rfl
@[simp] theorem aw_region (id : Nat) (ops : Array Oper) : aw P draws (.region id ops false) Q ⟨e, m, n, t⟩ = awOps P ops.toList (Q .normal) ops.toList ⟨e, m, n, t⟩ := rfl
@[simp] theorem aw_draw (id : Nat) (ops : Array Oper) : aw P draws (.region id ops true) Q ⟨e, m, n, t⟩ = draws ops.toList (Q .normal) ⟨e, m, n, t⟩ := rfl
@[simp] theorem awOps_nil : awOps P all K [] ⟨e, m, n, t⟩ = K ⟨e, m, n, t⟩ := rfl
theorem br_of {b : Bool} {p q : Prop} (h : br b p q) : (b = true → p) ∧ (b = !true → q) := ⟨h.1, fun e => h.2 (by simpa using e)⟩
theorem br_of' {b : Bool} {p q : Prop} (h : br b p q) : (b = false → q) ∧ (b = !false → p) := ⟨h.2, fun e => h.1 (by simpa using e)⟩
@[simp] theorem awOps_cons : awOps P all K (o :: r) ⟨e, m, n, t⟩ = (match o.guard with
    | none => stepK P o ⟨e, m, n, t⟩ (awOps P all K r)
    | some (j, want) => match guardD all j with
      | some d => match look d e with
        | some (.bool b) => (match want with
          | true => br b (stepK P o ⟨(d, .bool true) :: e, m, n, t⟩ (awOps P all K r)) (skipK o ⟨(d, .bool false) :: e, m, n, t⟩ (awOps P all K r))
          | false => br b (skipK o ⟨(d, .bool true) :: e, m, n, t⟩ (awOps P all K r)) (stepK P o ⟨(d, .bool false) :: e, m, n, t⟩ (awOps P all K r)))
        | some (.tup []) => skipK o ⟨e, m, n, t⟩ (awOps P all K r)
        | _ => False
      | none => False) := by
  cases hg : o.guard with
  | none => simp only [awOps, hg]
  | some g =>
    obtain ⟨j, want⟩ := g
    simp only [awOps, hg]
    cases guardD all j with
    | none => rfl
    | some d =>
      simp only []
      cases look d e with
      | none => rfl
      | some v =>
        cases v with
        | bool b =>
          cases want
          · simp only [br, St.set, Bool.not_false]
            exact propext ⟨fun h => ⟨h.2, h.1⟩, fun h => ⟨h.2, h.1⟩⟩
          · rfl
        | tup vs => cases vs <;> rfl
        | _ => rfl
@[simp] theorem opK_eq : opK P o ⟨e, m, n, t⟩ K = vK P o.op (evV P e m o.op) o.dst ⟨e, m, n, t⟩ K := by
  unfold opK evO vK oK
  cases evV P e m o.op <;> rfl
@[simp] theorem exK_normal (Q : Exit → St → Prop) (N : St → Prop) : exK Q N .normal ⟨e, m, n, t⟩ = N ⟨e, m, n, t⟩ := rfl
@[simp] theorem exK_exit (Q : Exit → St → Prop) (N : St → Prop) (i : Nat) : exK Q N (.exit i) ⟨e, m, n, t⟩ = Q (.exit i) ⟨e, m, n, t⟩ := rfl
@[simp] theorem exK_goto (Q : Exit → St → Prop) (N : St → Prop) (i : Nat) : exK Q N (.goto i) ⟨e, m, n, t⟩ = Q (.goto i) ⟨e, m, n, t⟩ := rfl
@[simp] theorem exK_ret (Q : Exit → St → Prop) (N : St → Prop) : exK Q N .ret ⟨e, m, n, t⟩ = Q .ret ⟨e, m, n, t⟩ := rfl
@[simp] theorem blkK_normal (Q : Exit → St → Prop) (id : Nat) : blkK id Q .normal ⟨e, m, n, t⟩ = Q .normal ⟨e, m, n, t⟩ := rfl
@[simp] theorem blkK_ret (Q : Exit → St → Prop) (id : Nat) : blkK id Q .ret ⟨e, m, n, t⟩ = Q .ret ⟨e, m, n, t⟩ := rfl
@[simp] theorem blkK_goto (Q : Exit → St → Prop) (id i : Nat) : blkK id Q (.goto i) ⟨e, m, n, t⟩ = Q (.goto i) ⟨e, m, n, t⟩ := rfl
@[simp] theorem blkK_exit (Q : Exit → St → Prop) (id i : Nat) : blkK id Q (.exit i) ⟨e, m, n, t⟩ = if i = id then Q .normal ⟨e, m, n, t⟩ else Q (.exit i) ⟨e, m, n, t⟩ := rfl
@[simp] theorem retOk_ret (res : List ResultVar) (R : V → Prop) : retOk P res R .ret ⟨e, m, n, t⟩ = (match retL P e m res with
    | some vs => match purA (frA m vs) vs with
      | some rs => R (mkT rs)
      | none => False
    | none => False) := rfl
@[simp] theorem retOk_normal (res : List ResultVar) (R : V → Prop) : retOk P res R .normal ⟨e, m, n, t⟩ = (match retL P e m res with
    | some vs => match purA (frA m vs) vs with
      | some rs => R (mkT rs)
      | none => False
    | none => False) := rfl
@[simp] theorem putK_some (d : Nat) (v : V) (m' : List (Nat × AO)) (n' : Nat) : putK ⟨e, m, n, t⟩ (some d) (some v) m' n' K = (d < t ∧ K ⟨(d, v) :: e, m', n', t⟩) := rfl
@[simp] theorem putK_none (v : Option V) (m' : List (Nat × AO)) (n' : Nat) : putK ⟨e, m, n, t⟩ none v m' n' K = K ⟨e, m', n', t⟩ := by cases v <;> rfl
/-- A call of a function that only computes. -/
theorem callP {f : FuncId} {vs args : List V} {v : V} {mem : List (Nat × AO)} {nx : Nat} {st : St} {dst : Option Nat} (hp : Pure P f args v) (ha : purA (frA mem vs) vs = some args) (hk : putK st dst (some v) (if flat v = true then mem else frA mem vs) nx K) : CallK P f vs mem nx (putR st dst K) :=
  callK_pure hp ha hk
theorem callPQ {f : FuncId} {vs args : List V} {R : V → Prop} {mem : List (Nat × AO)} {nx : Nat} {st : St} {dst : Option Nat} (hp : PureQ P f args R) (ha : purA (frA mem vs) vs = some args) (hk : ∀ v, R v → putK st dst (some v) (if flat v = true then mem else frA mem vs) nx K) : CallK P f vs mem nx (putR st dst K) :=
  callK_pureQ hp ha hk
/-- A loop by its invariant. -/
theorem aw_loop {α : Type} (I : α → St) (μ : α → Nat) (x : α) {c : Code} {st : St} (hx : st.to st.nx (I x)) (h : ∀ y, aw P draws c (exK Q (fun st' => ∃ z, μ z < μ y ∧ st'.to st.nx (I z))) (I y)) : aw P draws (.loop c) Q st :=
  Or.inr ⟨α, I, μ, x, hx, h⟩
theorem aw_rounds (k : Nat) {c : Code} {st : St} (h : rounds (fun st' Q' => aw P draws c Q' st') Q k st) : aw P draws (.loop c) Q st := Or.inl ⟨k, h⟩
end
attribute [simp] stepK opN nilK callK skipK guardD evV evM evB apM srcM mkM sbM bsV encB valO valL valP bnd look ofValue isC mpM mapS lookR findV sameV sameP pairV keyK binV nilQ binI binS retL retV purA pur purL pur1 frA frV frC fr1 frS V.cells V.cell mkT flat flatA unT flat1 ldV partV placeV boxM storeM env0 purLL bsM frLs frBs frSt AO.freeze rdL lenV srcM idxV idxA slV cvV taV mxV fillV
end Go.Proofs.Ytalkadbpdaoifaa.AX
/- A part of what is known, taken out and laid back. -/
namespace Go.Proofs.Ytalkadbpdaoifaa.AX
open Go Go.RowKit
set_option linter.unusedVariables false
set_option linter.unusedSimpArgs false
mutual
def V.refs : V → List Nat
  | .ptr s _ => [s]
  | .ep s _ _ _ => [s]
  | .rf s => [s]
  | .psl s _ => [s]
  | .agg cs => refsL cs
  | .tup cs => refsL cs
  | .fn _ cs => refsL cs
  | _ => []
def refsL : List V → List Nat
  | [] => []
  | a :: r => a.refs ++ refsL r
end
def AO.refs : AO → List Nat
  | .box _ _ cs => refsL cs
  | .map kvs => refsL (kvs.map (·.2))
  | _ => []
def cutF (φ : Nat → Option Value) (n : Nat) : Nat → Option Value := fun s => if s < n then φ s else none
theorem mem_refsL {s : Nat} : ∀ {cs : List V} {a : V}, a ∈ cs → s ∈ a.refs → s ∈ refsL cs
  | b :: r, a, h, hs => by
    rcases List.mem_cons.1 h with rfl | h
    · simp [refsL, hs]
    · simp [refsL, mem_refsL h hs]
theorem rep_cut {H : Imm} {φ : Nat → Option Value} {n : Nat} {v : V} {c : Value} (h : Rep H φ v c) (hb : ∀ s ∈ v.refs, s < n) : Rep H (cutF φ n) v c := by
  induction h with
  | d v c h => exact .d v c h
  | un c => exact .un c
  | ptr s o g h => exact .ptr s o g (by simp [cutF, hb s (by simp [V.refs]), h])
  | ep s z i o g n' c h => exact .ep s z i o g n' c (by simp [cutF, hb s (by simp [V.refs]), h])
  | ip cs ad u hu hr hv hne => exact .ip cs ad u hu hr hv hne
  | rf s l h h1 => exact .rf s l (by simp [cutF, hb s (by simp [V.refs]), h]) h1
  | psl s n' g h => exact .psl s n' g (by simp [cutF, hb s (by simp [V.refs]), h])
  | agg cs vs hl h hv ih => exact .agg cs vs hl (fun i a v h1 h2 => ih i a v h1 h2 fun s hs => hb s (by simp only [V.refs]; exact mem_refsL (List.mem_of_getElem? h1) hs)) hv
  | tup cs vs hl h ih => exact .tup cs vs hl (fun i a v h1 h2 => ih i a v h1 h2 fun s hs => hb s (by simp only [V.refs]; exact mem_refsL (List.mem_of_getElem? h1) hs))
  | fn f cs vs hl h ih => exact .fn f cs vs hl (fun i a v h1 h2 => ih i a v h1 h2 fun s hs => hb s (by simp only [V.refs]; exact mem_refsL (List.mem_of_getElem? h1) hs))
theorem repL_cut {H : Imm} {φ : Nat → Option Value} {n : Nat} {cs : List V} {vs : List Value} (h : RepL H φ cs vs) (hb : ∀ s ∈ refsL cs, s < n) : RepL H (cutF φ n) cs vs :=
  ⟨h.1, fun i a v h1 h2 => rep_cut (h.2 i a v h1 h2) fun s hs => hb s (mem_refsL (List.mem_of_getElem? h1) hs)⟩
theorem satO_cut {H : Imm} {φ : Nat → Option Value} {n : Nat} {w : World} {l : Value} {o : AO} (h : SatO H φ w l o) (hb : ∀ s ∈ o.refs, s < n) : SatO H (cutF φ n) w l o := by
  cases o with
  | box fz T cs =>
    cases fz with
    | false => obtain ⟨g, vs, e, h1, h2, h3⟩ := h; exact ⟨g, vs, e, h1, repL_cut h2 hb, h3⟩
    | true => obtain ⟨g, vs, e, h1, h2, h3⟩ := h; exact ⟨g, vs, e, h1, repL_cut h2 hb, h3⟩
  | row fz T z es => cases fz <;> exact h
  | map kvs =>
    obtain ⟨r, es, clock, e, h1, h2, h3, h4⟩ := h
    refine ⟨r, es, clock, e, h1, h2, fun i p e h5 h6 => ?_, h4⟩
    obtain ⟨a, b, c⟩ := h3 i p e h5 h6
    exact ⟨a, rep_cut b fun s hs => hb s (by simp only [AO.refs]; exact mem_refsL (List.mem_map.2 ⟨p, List.mem_of_getElem? h5, rfl⟩) hs), c⟩
  | gone => trivial
def mineOf (φ : Nat → Option Value) (m : List (Nat × AO)) (g : Nat) : Prop := ∃ s o l, look s m = some o ∧ o.live = true ∧ φ s = some l ∧ blkOf l = some g
section
variable {B : Base} {H H' : Imm} {φ φ' : Nat → Option Value} {M m m' : List (Nat × AO)} {N n n' : Nat} {w w' : World}
theorem Sat.sub (S : Sat B H φ M N w) (hm : ∀ s o, look s m = some o → look s M = some o ∧ s < n ∧ ∀ k ∈ o.refs, k < n) : Sat ⟨w, H, mineOf φ m, fun _ => none, 0⟩ H (cutF φ n) m n w := by
  have hcut : ∀ s l, cutF φ n s = some l → φ s = some l := fun s l h => by
    unfold cutF at h
    split at h
    · exact h
    · cases h
  refine ⟨S.imm, fun s o h => ?_, fun s hs => by simp [cutF, Nat.not_lt.2 hs], fun s o l g h hv hl hb => ?_, fun s s' o o' l l' g h h' hv hv' hl hl' hb hb' => ?_, rfl, rfl, rfl, Nat.le_refl _, fun k _ _ => rfl, Imm.le_refl _, fun k o h => .inl h, Nat.zero_le _, fun s hs => absurd hs (Nat.not_lt_zero _)⟩
  · obtain ⟨h1, h2, h3⟩ := hm s o h
    obtain ⟨l, h4, h5⟩ := S.obj s o h1
    exact ⟨l, by simp [cutF, h2, h4], satO_cut h5 h3⟩
  · exact ⟨(S.exc s o l g (hm s o h).1 hv (hcut s l hl) hb).1, .inr ⟨s, o, l, h, hv, hcut s l hl, hb⟩⟩
  · exact S.sep s s' o o' l l' g (hm s o h).1 (hm s' o' h').1 hv hv' (hcut s l hl) (hcut s' l' hl') hb hb'
def joinF (φ φ' : Nat → Option Value) (n n' : Nat) : Nat → Option Value := fun s => if n ≤ s ∧ s < n' then φ' s else φ s
theorem look_append {α : Type} (s : Nat) : ∀ (a b : List (Nat × α)), look s (a ++ b) = (look s a).or (look s b)
  | [], b => by simp [look]
  | (i, x) :: r, b => by
    simp only [List.cons_append, look_cons]
    split
    · rfl
    · exact look_append s r b
theorem Sat.join (S : Sat B H φ M N w) (hm : ∀ s o, look s m = some o → look s M = some o ∧ s < n ∧ ∀ k ∈ o.refs, k < n) (S' : Sat ⟨w, H, mineOf φ m, fun _ => none, 0⟩ H' φ' m' n' w') (hφ : fext n (cutF φ n) φ') (hfree : ∀ s, n ≤ s → s < n' → φ s = none) (hN : n' ≤ N)
    (hk : ∀ s, (look s m).isSome = true → (look s m').isSome = true) (hlo : B.n0 ≤ n) : Sat B H' (joinF φ φ' n n') (m' ++ M) N w' ∧ fle φ (joinF φ φ' n n') ∧ fle φ' (joinF φ φ' n n') := by
  have f1 : fle φ (joinF φ φ' n n') := fun s l h => by
    unfold joinF
    split
    · rename_i hh; rw [hfree s hh.1 hh.2] at h; cases h
    · exact h
  have f2 : fle φ' (joinF φ φ' n n') := fun s l h => by
    unfold joinF
    split
    · exact h
    · rename_i hh
      by_cases hs : s < n
      · have := hφ.eq s hs
        rw [h] at this
        simpa [cutF, hs] using this.symm
      · have : φ' s = none := S'.new s (by omega)
        rw [h] at this; cases this
  -- what is not among the part
  have out : ∀ s o l g, look s m' = none → look s M = some o → o.live = true → φ s = some l → blkOf l = some g → g < w.heap.size ∧ ¬ mineOf φ m g := by
    intro s o l g hs hM hv hl hb
    obtain ⟨l2, h1, h2⟩ := S.obj s o hM
    rw [hl] at h1; cases h1
    refine ⟨h2.blk_lt hv hb, ?_⟩
    rintro ⟨s2, o2, l3, h3, h4, h5, h6⟩
    have h7 := (hm s2 o2 h3).1
    have : s2 = s := S.sep s2 s o2 o l3 l g h7 hM h4 hv h5 hl h6 hb
    subst this
    have := hk s2 (by rw [h3]; rfl)
    rw [hs] at this
    cases this
  have mineB : ∀ g, mineOf φ m g → B.w0.heap.size ≤ g ∨ B.mine g := by
    rintro g ⟨s2, o2, l3, h3, h4, h5, h6⟩
    exact (S.exc s2 o2 l3 g (hm s2 o2 h3).1 h4 h5 h6).2
  have sel : ∀ s o, look s (m' ++ M) = some o → look s m' = some o ∨ (look s m' = none ∧ look s M = some o) := by
    intro s o h
    rw [look_append] at h
    cases h1 : look s m' with
    | none => rw [h1] at h; exact .inr ⟨rfl, by simpa using h⟩
    | some x => rw [h1] at h; exact .inl (by simpa using h)
  have eqL : ∀ s l l', φ s = some l → joinF φ φ' n n' s = some l' → l = l' := fun s l l' h h' => by rw [f1 s l h] at h'; exact Option.some.inj h'
  have eqR : ∀ s l l', φ' s = some l → joinF φ φ' n n' s = some l' → l = l' := fun s l l' h h' => by rw [f2 s l h] at h'; exact Option.some.inj h'
  refine ⟨⟨S'.imm, ?_, ?_, ?_, ?_, S'.os.trans S.os, S'.tape.trans S.tape, S'.output.trans S.output, Nat.le_trans S.size S'.size, ?_, Imm.le_trans S.him S'.him, ?_, S.fix.1, fun s hs => by unfold joinF; rw [if_neg (by omega)]; exact S.fix.2 s hs⟩, f1, f2⟩
  · intro s o h
    rcases sel s o h with h | ⟨h0, h⟩
    · obtain ⟨l, h1, h2⟩ := S'.obj s o h
      exact ⟨l, f2 s l h1, h2.mono (Imm.le_refl _) f2⟩
    · obtain ⟨l, h1, h2⟩ := S.obj s o h
      refine ⟨l, f1 s l h1, (h2.kept fun g hv hb => ?_).mono S'.him f1⟩
      obtain ⟨h3, h4⟩ := out s o l g h0 h hv h1 hb
      exact S'.kept g h3 h4
  · intro s hs
    unfold joinF
    rw [if_neg (by omega)]
    exact S.new s hs
  · intro s o l g h hv hl hb
    rcases sel s o h with h | ⟨h0, h⟩
    · obtain ⟨l2, h1, h2⟩ := S'.obj s o h
      obtain rfl := eqR s l2 l h1 hl
      obtain ⟨h3, h4⟩ := S'.exc s o l2 g h hv h1 hb
      refine ⟨h3, ?_⟩
      rcases h4 with h4 | h4
      · exact .inl (Nat.le_trans S.size h4)
      · exact mineB g h4
    · obtain ⟨l2, h1, h2⟩ := S.obj s o h
      obtain rfl := eqL s l2 l h1 hl
      obtain ⟨h3, h4⟩ := out s o l2 g h0 h hv h1 hb
      obtain ⟨h5, h6⟩ := S.exc s o l2 g h hv h1 hb
      refine ⟨?_, h6⟩
      cases hH : H' g with
      | none => rfl
      | some x =>
        rcases S'.hne g x hH with h7 | h7 | h7
        · have h8 : H g = some x := h7
          rw [h5] at h8; cases h8
        · have h8 : w.heap.size ≤ g := h7
          omega
        · exact absurd h7 h4
  · intro s s' o o' l l' g h h' hv hv' hl hl' hb hb'
    have cross : ∀ s s' o o' l l', look s m' = some o → look s' m' = none → look s' M = some o' → o.live = true → o'.live = true → joinF φ φ' n n' s = some l → joinF φ φ' n n' s' = some l' → blkOf l = some g → blkOf l' = some g → False := by
      intro s s' o o' l l' h h0 h' hv hv' hl hl' hb hb'
      obtain ⟨l2, h1, h2⟩ := S'.obj s o h
      obtain rfl := eqR s l2 l h1 hl
      obtain ⟨l3, h3, h4⟩ := S.obj s' o' h'
      obtain rfl := eqL s' l3 l' h3 hl'
      obtain ⟨h5, h6⟩ := out s' o' l3 g h0 h' hv' h3 hb'
      rcases (S'.exc s o l2 g h hv h1 hb).2 with h7 | h7
      · have h8 : w.heap.size ≤ g := h7
        omega
      · exact h6 h7
    rcases sel s o h with h | ⟨h0, h⟩ <;> rcases sel s' o' h' with h' | ⟨h0', h'⟩
    · obtain ⟨l2, h1, _⟩ := S'.obj s o h
      obtain rfl := eqR s l2 l h1 hl
      obtain ⟨l3, h3, _⟩ := S'.obj s' o' h'
      obtain rfl := eqR s' l3 l' h3 hl'
      exact S'.sep s s' o o' l2 l3 g h h' hv hv' h1 h3 hb hb'
    · exact (cross s s' o o' l l' h h0' h' hv hv' hl hl' hb hb').elim
    · exact (cross s' s o' o l' l h' h0 h hv' hv hl' hl hb' hb).elim
    · obtain ⟨l2, h1, _⟩ := S.obj s o h
      obtain rfl := eqL s l2 l h1 hl
      obtain ⟨l3, h3, _⟩ := S.obj s' o' h'
      obtain rfl := eqL s' l3 l' h3 hl'
      exact S.sep s s' o o' l2 l3 g h h' hv hv' h1 h3 hb hb'
  · intro k hk hmine
    rw [S'.kept k (Nat.lt_of_lt_of_le hk S.size) fun h => ?_]
    · exact S.kept k hk hmine
    · rcases mineB k h with h | h
      · omega
      · exact hmine h
  · intro k o hk
    rcases S'.hne k o hk with h | h | h
    · exact S.hne k o h
    · exact .inr (.inl (Nat.le_trans S.size h))
    · exact .inr (mineB k h)
end
end Go.Proofs.Ytalkadbpdaoifaa.AX
/- Regions that draw their order: one walk serves all orders. -/
namespace Go.Proofs.Ytalkadbpdaoifaa.AX
open Go Go.RowKit
set_option linter.unusedVariables false
set_option linter.unusedSimpArgs false
/-- What those of a set have written, in the order of the text. -/
def fold {α : Type} (u : Nat → List (Nat × α)) (L : Nat → Bool) (base : List (Nat × α)) : Nat → List (Nat × α)
  | 0 => base
  | n + 1 => if L n = true then u n ++ fold u L base n else fold u L base n
section
variable {α : Type} {u : Nat → List (Nat × α)} {base : List (Nat × α)}
theorem fold_congr {L L' : Nat → Bool} {s : Nat} (n : Nat) (h : ∀ k, k < n → (look s (u k)).isSome = true → L k = L' k) : look s (fold u L base n) = look s (fold u L' base n) := by
  induction n with
  | zero => rfl
  | succ n ih =>
    replace ih := ih (fun k hk => h k (by omega))
    unfold fold
    cases hs : look s (u n) with
    | none =>
      have e : ∀ M, look s (u n ++ M) = look s M := fun M => by rw [look_append, hs]; rfl
      split <;> split <;> first | (simp only [e]; exact ih) | exact ih
    | some x =>
      have := h n (by omega) (by rw [hs]; rfl)
      rw [this]
      split
      · rw [look_append, look_append, hs]; rfl
      · exact ih
theorem fold_add {L : Nat → Bool} {s i : Nat} : ∀ (n : Nat), i < n → L i = false → (∀ k, k < n → i < k → L k = true → (look s (u i)).isSome = true → (look s (u k)).isSome = false) →
    look s (fold u (fun k => L k || k == i) base n) = look s (u i ++ fold u L base n)
  | 0, hi, _, _ => by omega
  | n + 1, hi, hL, h => by
    by_cases hn : n = i
    · subst hn
      have : look s (fold u (fun k => L k || k == n) base n) = look s (fold u L base n) := fold_congr n (fun k hk _ => by
        have : (k == n) = false := by simp; omega
        simp [this])
      unfold fold
      simp only [hL, beq_self_eq_true, Bool.or_true, if_true, Bool.false_eq_true, if_false]
      rw [look_append, look_append, this]
    · have ih := fold_add (L := L) (s := s) (i := i) n (by omega) hL (fun k hk => h k (by omega))
      have hni : (n == i) = false := by simpa using hn
      unfold fold
      simp only [hni, Bool.or_false]
      split
      · rename_i hLn
        rw [look_append, ih, look_append, look_append, look_append]
        cases hs : look s (u i) with
        | none => rfl
        | some x =>
          have := h n (by omega) (by omega) hLn (by rw [hs]; rfl)
          cases hs2 : look s (u n) with
          | none => rfl
          | some y => rw [hs2] at this; cases this
      · exact ih
theorem fold_none {L : Nat → Bool} (h : ∀ k, L k = false) : ∀ (n : Nat), fold u L base n = base
  | 0 => rfl
  | n + 1 => by unfold fold; rw [h n, if_neg (by simp)]; exact fold_none h n
end
/-- An operation of a region, as it comes up. -/
structure Ev where
  rd : List Nat
  e : List (Nat × V)
  m : List (Nat × AO)
  w : List (Nat × V)
  u : List (Nat × AO)
def keysL {α : Type} (l : List (Nat × α)) : List Nat := l.map (·.1)
theorem look_key {α : Type} {s : Nat} : ∀ {l : List (Nat × α)}, (look s l).isSome = true ↔ s ∈ keysL l
  | [] => by simp [look, keysL]
  | (i, x) :: r => by
    rw [look_cons]
    split
    · rename_i h; subst h; simp [keysL]
    · rename_i h
      rw [look_key (l := r)]
      simp [keysL, h]
/-- An operation comes up so, whenever it is told the same. -/
structure EvOk (P : Program) (all : List Oper) (n0 nt i : Nat) (o : Oper) (v : Ev) : Prop where
  below : ∀ s o', look s v.m = some o' → s < n0 + i ∧ ∀ k ∈ o'.refs, k < n0 + i
  refs : ∀ t x, look t v.e = some x → ∀ k ∈ x.refs, k < n0 + i
  -- it looks at no more than it says
  step : (stepK P o ⟨v.e, v.m, n0 + i, nt⟩ (fun st => (∀ t x, look t (v.w ++ v.e) = some x → look t st.env = some x) ∧ (∀ s x, look s (v.u ++ v.m) = some x → look s st.mem = some x) ∧ st.nx ≤ n0 + i + 1 ∧ st.nt = nt) ∧
      (o.guard = none ∨ ∃ j want d, o.guard = some (j, want) ∧ guardD all j = some d ∧ look d v.e = some (.bool want))) ∨
    (v.u = [] ∧ (∀ d x, v.w = [(d, x)] → d < nt ∧ x = .tup []) ∧
      ∃ j want d, o.guard = some (j, want) ∧ guardD all j = some d ∧ (look d v.e = some (.bool !want) ∨ look d v.e = some (.tup [])))
  wdst : (∃ d x, o.dst = some d ∧ v.w = [(d, x)]) ∨ (o.dst = none ∧ v.w = [])
section
variable {P : Program} {B : Base}
/-- Whatever an operation leaves, it leaves it in its own temporary. -/
theorem Oper.wp_put {o : Oper} {a : Act} {w : World} {K : Act → World → Prop} {Q : Exit → Act → World → Prop} (h : o.wp P a w K Q) (hd : a.defers = []) (hK : ∀ a' w', K a' w' → a'.defers = []) : o.wp P a w (fun a' w' => K a' w' ∧ ∃ c, a' = a.put o.dst c) Q := by
  unfold Oper.wp at *
  generalize (execOp a.eval o).run P w = r at *
  cases r with
  | ok n w' =>
    cases n <;> simp only [Oper.upon] at h ⊢ <;> first
      | exact ⟨h, _, rfl⟩
      | (refine Calls.mono h fun e w'' he => ?_; cases e <;> first | exact ⟨he, _, rfl⟩ | exact he)
      | (refine Rows.mono h fun v w'' he => ?_; exact ⟨he, _, rfl⟩)
      | skip
    case defer d =>
      have := hK _ _ h
      cases hdst : o.dst <;> simp [hdst, Act.put] at this
  | halt x w' => cases x <;> simp only [Oper.upon] at h ⊢ <;> exact h
/-- The state of a region of which those of L have come up. -/
structure RInv (B : Base) (evs : Nat → Ev) (st : St) (n : Nat) (L : Nat → Bool) (a : Act) (w : World) : Prop where
  lo : B.n0 ≤ st.nx
  ex : ∃ H φ, a.defers = [] ∧ a.tmps.size = st.nt ∧ EnvOk H φ (fold (fun k => (evs k).w) L st.env n) a.tmps ∧ Sat B H φ (fold (fun k => (evs k).u) L st.mem n) (st.nx + n) w ∧ ∀ k, k < n → L k = false → φ (st.nx + k) = none
theorem RInv.congr {evs : Nat → Ev} {st : St} {n : Nat} {L L' : Nat → Bool} {a : Act} {w : World} (h : RInv B evs st n L a w) (hL : ∀ k, k < n → L k = L' k) : RInv B evs st n L' a w := by
  have e : ∀ {α : Type} (u : Nat → List (Nat × α)) (base : List (Nat × α)), fold u L base n = fold u L' base n := by
    intro α u base
    clear h
    induction n with
    | zero => rfl
    | succ n ih => unfold fold; rw [hL n (by omega), ih (fun k hk => hL k (by omega))]
  obtain ⟨lo, H, φ, h1, h2, h3, h4, h5⟩ := h
  exact ⟨lo, H, φ, h1, h2, by rw [← e]; exact h3, by rw [← e]; exact h4, fun k hk hk' => h5 k hk (by rw [hL k hk]; exact hk')⟩
/-- One operation of it. -/
theorem RInv.step {evs : Nat → Ev} {st : St} {all : List Oper} {n i : Nat} {L : Nat → Bool} {a : Act} {w : World} {o : Oper} (h : RInv B evs st n L a w) (hi : i < n) (hL : L i = false) (hv : EvOk P all st.nx st.nt i o (evs i))
    (he : ∀ t x, look t (evs i).e = some x → look t (fold (fun k => (evs k).w) L st.env n) = some x)
    (hm : ∀ s x, look s (evs i).m = some x → look s (fold (fun k => (evs k).u) L st.mem n) = some x)
    (hw : ∀ t k, k < n → i < k → L k = true → (look t (evs i).w).isSome = true → (look t (evs k).w).isSome = false)
    (hu : ∀ s k, k < n → i < k → L k = true → (look s (evs i).u).isSome = true → (look s (evs k).u).isSome = false)
    {Q : Exit → Act → World → Prop} :
    (Region.wanted o (yielded all.toArray a.tmps) = true ∧ o.wp P a w (fun a' w' => RInv B evs st n (fun k => L k || k == i) a' w') Q) ∨
    (Region.wanted o (yielded all.toArray a.tmps) = false ∧ RInv B evs st n (fun k => L k || k == i) (a.put o.dst undef) w) := by
  obtain ⟨lo, H, φ, h1, h2, h3, S, h5⟩ := h
  have heE : EnvOk H φ (evs i).e a.tmps := fun t x ht => h3 t x (he t x ht)
  have newE : ∀ {H' : Imm} {φ' : Nat → Option Value} {a' : Act} (c : Value), H.le H' → fle φ φ' → a' = a.put o.dst c → EnvOk H' φ' ((evs i).w) a'.tmps → EnvOk H' φ' (fold (fun k => (evs k).w) (fun k => L k || k == i) st.env n) a'.tmps := by
    intro H' φ' a' c hH hφ ha hw' t x ht
    rw [fold_add n hi hL (fun k hk hik hLk hs => hw t k hk hik hLk hs), look_append] at ht
    cases hl : look t (evs i).w with
    | some y => rw [hl] at ht; exact hw' t x (by rw [hl]; simpa using ht)
    | none =>
      rw [hl] at ht
      have ht' : look t (fold (fun k => (evs k).w) L st.env n) = some x := by simpa using ht
      obtain ⟨v, g1, g2⟩ := h3 t x ht'
      refine ⟨v, ?_, g2.mono hH hφ⟩
      subst ha
      cases hdst : o.dst with
      | none => simpa [Act.put, hdst] using g1
      | some d =>
        by_cases htd : t = d
        · -- the temporary is its own: it is told
          exfalso
          rcases hv.wdst with ⟨d', y, q1, q2⟩ | ⟨q1, _⟩
          · rw [hdst] at q1; cases q1
            rw [q2, htd] at hl
            simp [look] at hl
          · rw [hdst] at q1; cases q1
        · simp [Act.put, hdst]
          rw [Array.getElem?_setIfInBounds_ne (fun e => htd e.symm)]
          exact g1
  rcases hv.step with ⟨s1, hg⟩ | ⟨hu0, hsk, j, want, d, hg, hgd, hlook⟩
  · left
    refine ⟨?_, ?_⟩
    · rcases hg with hg | ⟨j, want, d, hg, hgd, hlook⟩
      · simp [Region.wanted, hg]
      · obtain ⟨c, hc1, hc2⟩ := heE d _ hlook
        have := rep_bool hc2
        subst this
        have hy : yielded all.toArray a.tmps j = some want := by
          unfold guardD at hgd
          have : all.toArray[j]? = all[j]? := by simp
          unfold yielded
          rw [this, hgd]
          simp [hc1]
        simp [Region.wanted, hg, hy]
    · have hX : SatX ⟨w, H, mineOf φ (evs i).m, fun _ => none, 0⟩ H (cutF φ (st.nx + i)) ⟨(evs i).e, (evs i).m, st.nx + i, st.nt⟩ a w :=
        ⟨h1, h2, fun t x hx => by obtain ⟨c, g1, g2⟩ := heE t x hx; exact ⟨c, g1, rep_cut g2 (hv.refs t x hx)⟩, S.sub fun s x hx => ⟨hm s x hx, hv.below s x hx⟩⟩
      refine Oper.wp_mono ?_ (Oper.wp_put (stepK_came s1 hX) h1 (fun a' w' ⟨st2, H', φ', _, _, hx, _⟩ => hx.1))
      rintro a' w' ⟨⟨st2, H', φ', hle, hext, ⟨x1, x2, x3, S0⟩, s2, s3, s4, s5⟩, c, hput⟩
      have S' := S0.fewer s3
      have S'' : Sat ⟨w, H, mineOf φ (evs i).m, fun _ => none, 0⟩ H' φ' ((evs i).u ++ (evs i).m) (st.nx + i + 1) w' := ⟨S'.imm, S'.obj, fun s hs => S'.new s (by omega), S'.exc, S'.sep, S'.os, S'.tape, S'.output, S'.size, S'.kept, S'.him, S'.hne, Nat.zero_le _, fun s hs => absurd hs (Nat.not_lt_zero _)⟩
      obtain ⟨J, f1, f2⟩ := S.join (n := st.nx + i) (n' := st.nx + i + 1) (fun s x hx => ⟨hm s x hx, hv.below s x hx⟩) S'' hext (fun s g1 g2 => by
        have : s = st.nx + i := by omega
        rw [this]; exact h5 i hi hL) (by omega) (fun s hs => by rw [look_append]; cases h : look s (evs i).u <;> simp [hs]) (Nat.le_trans lo (Nat.le_add_right _ _))
      refine ⟨lo, ⟨H', joinF φ φ' (st.nx + i) (st.nx + i + 1), x1, by rw [x2, s5], newE c hle f1 hput fun t x hx => ?_, J.fewer fun s x hx => ?_, fun k hk hk' => ?_⟩⟩
      · obtain ⟨c', g1, g2⟩ := x3 t x (s2 t x (by rw [look_append, hx]; rfl))
        exact ⟨c', g1, g2.mono (Imm.le_refl _) f2⟩
      · rw [fold_add n hi hL (fun k hk hik hLk hs => hu s k hk hik hLk hs), look_append] at hx
        rw [look_append, look_append]
        cases h : look s (evs i).u with
        | some y => rw [h] at hx; simpa using hx
        | none =>
          rw [h] at hx
          have hx' : look s (fold (fun k => (evs k).u) L st.mem n) = some x := by simpa using hx
          cases hm2 : look s (evs i).m with
          | none => simpa using hx'
          | some y => have := hm s y hm2; rw [hx'] at this; cases this; simp
      · simp only [Bool.or_eq_false_iff] at hk'
        unfold joinF
        rw [if_neg ?_]
        · exact h5 k hk hk'.1
        · intro hh
          have : k = i := by omega
          subst this
          simp at hk'
  · right
    refine ⟨?_, ?_⟩
    · rcases hlook with hlook | hlook
      · obtain ⟨c, hc1, hc2⟩ := heE d _ hlook
        have := rep_bool hc2
        subst this
        have hy : yielded all.toArray a.tmps j = some (!want) := by
          unfold guardD at hgd
          have : all.toArray[j]? = all[j]? := by simp
          unfold yielded
          rw [this, hgd]
          simp [hc1]
        cases want <;> simp [Region.wanted, hg, hy]
      · obtain ⟨c, hc1, hc2⟩ := heE d _ hlook
        obtain ⟨vs, rfl, _⟩ := rep_tup hc2
        have hy : yielded all.toArray a.tmps j = none := by
          unfold guardD at hgd
          have : all.toArray[j]? = all[j]? := by simp
          unfold yielded
          rw [this, hgd]
          simp [hc1]
        simp [Region.wanted, hg, hy]
    · refine ⟨lo, ⟨H, φ, by cases o.dst <;> exact h1, by cases o.dst <;> simpa [Act.put] using h2, newE undef (Imm.le_refl _) (fle_refl _) rfl fun t x hx => ?_, S.fewer fun s x hx => ?_, fun k hk hk' => h5 k hk (by simp only [Bool.or_eq_false_iff] at hk'; exact hk'.1)⟩⟩
      · rcases hv.wdst with ⟨d', y, q1, q2⟩ | ⟨q1, q2⟩
        · obtain ⟨hlt, rfl⟩ := hsk d' y q2
          rw [q2] at hx
          simp only [look_cons, look_nil] at hx
          split at hx
          · rename_i e; subst e
            cases hx
            exact ⟨undef, by simp [Act.put, q1, h2, hlt], rep_skip H φ⟩
          · cases hx
        · rw [q2] at hx; cases hx
      · rw [fold_add n hi hL (fun k hk hik hLk hs => hu s k hk hik hLk hs), look_append, hu0] at hx
        simpa [look] using hx
end
end Go.Proofs.Ytalkadbpdaoifaa.AX
/- Regions that draw their order: who stands before whom, and that all orders come to the same. -/
namespace Go.Proofs.Ytalkadbpdaoifaa.AX
open Go Go.RowKit
set_option linter.unusedVariables false
set_option linter.unusedSimpArgs false
def onsOf (o : Oper) : List Nat := (o.after.toList.filter (Region.binds .any)).map (·.on)
def maskOf (acc : List Nat) : List Nat → Nat
  | [] => 0
  | j :: r => 2 ^ j ||| (acc[j]?.getD 0 ||| maskOf acc r)
/-- Of each operation: those before it, as bits. -/
def ancGo : List Oper → List Nat → List Nat
  | [], acc => acc
  | o :: r, acc => ancGo r (acc ++ [maskOf acc (onsOf o)])
def backGo : List Oper → Nat → Bool
  | [], _ => true
  | o :: r, i => (onsOf o).all (· < i) && backGo r (i + 1)
theorem maskOf_bit {acc : List Nat} {k : Nat} : ∀ {l : List Nat}, (maskOf acc l).testBit k = true → ∃ j ∈ l, k = j ∨ (acc[j]?.getD 0).testBit k = true
  | [], h => by simp [maskOf] at h
  | j :: r, h => by
    unfold maskOf at h
    simp only [Nat.testBit_or, Bool.or_eq_true, Nat.testBit_two_pow, decide_eq_true_eq] at h
    rcases h with h | h | h
    · exact ⟨j, by simp, .inl h.symm⟩
    · exact ⟨j, by simp, .inr h⟩
    · obtain ⟨i, h1, h2⟩ := maskOf_bit h
      exact ⟨i, by simp [h1], h2⟩
theorem ancGo_ok {L : Nat → Bool} : ∀ (r : List Oper) (acc : List Nat), (∀ i m, acc[i]? = some m → L i = true → ∀ k, m.testBit k = true → L k = true) →
    (∀ i o, r[i]? = some o → L (acc.length + i) = true → ∀ j ∈ onsOf o, L j = true) → ∀ i m, (ancGo r acc)[i]? = some m → L i = true → ∀ k, m.testBit k = true → L k = true
  | [], acc, ha, hr, i, m, h => ha i m h
  | o :: r, acc, ha, hr, i, m, h => by
    refine ancGo_ok r _ (fun i m hi hL k hk => ?_) (fun i' o' ho hL => hr (i' + 1) o' (by simpa using ho) (by rw [← hL]; congr 1; simp; omega)) i m h
    rw [List.getElem?_append] at hi
    split at hi
    · exact ha i m hi hL k hk
    · rename_i hlt
      have : i = acc.length := by
        have := (List.getElem?_eq_some_iff.1 hi).1
        simp at this
        omega
      subst this
      simp at hi
      subst hi
      obtain ⟨j, hj, h2⟩ := maskOf_bit hk
      have hLj := hr 0 o rfl hL j hj
      rcases h2 with rfl | h2
      · exact hLj
      · cases hacc : acc[j]? with
        | none => rw [hacc] at h2; simp at h2
        | some m' => rw [hacc] at h2; exact ha j m' hacc hLj k h2
theorem backGo_ok {o : Oper} : ∀ (r : List Oper) (n i : Nat), backGo r n = true → r[i]? = some o → ∀ j ∈ onsOf o, j < n + i := by
  intro r
  induction r with
  | nil => intro n i h ho; simp at ho
  | cons o' r ih =>
    intro n i h ho j hj
    unfold backGo at h
    rw [Bool.and_eq_true, List.all_eq_true] at h
    rcases i with _ | i
    · simp at ho
      subst ho
      have := h.1 j hj
      simpa using this
    · have := ih (n + 1) i h.2 (by simpa using ho) j hj
      omega
/-- What an operation looks at, and what it writes. -/
structure Chk where
  rd : List Nat
  wt : List Nat
  tch : List Nat
  wr : List Nat
def meets (a b : List Nat) : Bool := a.any (b.contains ·)
def clash (x y : Chk) : Bool := meets x.wt (y.rd ++ y.wt) || meets x.rd y.wt || meets x.wr (y.tch ++ y.wr) || meets x.tch y.wr
def okFrom (m : Nat) (y : Chk) : Nat → List Chk → Bool
  | _, [] => true
  | k, x :: r => (!clash x y || m.testBit k) && okFrom m y (k + 1) r
def chkOk (anc : List Nat) : List Chk → List Chk → Bool
  | _, [] => true
  | done, y :: r => okFrom (anc[done.length]?.getD 0) y 0 done && chkOk anc (done ++ [y]) r
theorem okFrom_ok {m : Nat} {y : Chk} : ∀ {l : List Chk} {n k : Nat} {x : Chk}, okFrom m y n l = true → l[k]? = some x → clash x y = true → m.testBit (n + k) = true
  | x' :: r, n, 0, x, h, hx, hc => by
    simp at hx
    subst hx
    simp [okFrom, hc] at h
    exact h.1
  | x' :: r, n, k + 1, x, h, hx, hc => by
    simp only [okFrom, Bool.and_eq_true] at h
    have := okFrom_ok (k := k) h.2 (by simpa using hx) hc
    rw [← this]; congr 1; omega
theorem chkOk_ok {anc : List Nat} : ∀ {l done : List Chk} {k i : Nat} {x y : Chk}, chkOk anc done l = true → k < i → done.length ≤ i → (done ++ l)[k]? = some x → (done ++ l)[i]? = some y → clash x y = true → (anc[i]?.getD 0).testBit k = true
  | [], done, k, i, x, y, h, hki, hi, hx, hy, hc => by
    have := (List.getElem?_eq_some_iff.1 hy).1
    simp at this
    omega
  | z :: r, done, k, i, x, y, h, hki, hi, hx, hy, hc => by
    simp only [chkOk, Bool.and_eq_true] at h
    by_cases he : i = done.length
    · subst he
      simp at hy
      subst hy
      rw [List.getElem?_append_left hki] at hx
      have := okFrom_ok h.1 hx hc
      simpa using this
    · exact chkOk_ok (l := r) (done := done ++ [z]) h.2 hki (by simp; omega) (by simpa using hx) (by simpa using hy) hc
/-- What it says of an operation. -/
structure ChkOf (c : Chk) (v : Ev) : Prop where
  e : ∀ t, (look t v.e).isSome = true → t ∈ c.rd
  w : ∀ t, (look t v.w).isSome = true → t ∈ c.wt
  m : ∀ s, (look s v.m).isSome = true → s ∈ c.tch
  u : ∀ s, (look s v.u).isSome = true → s ∈ c.wr
theorem meets_of {a b : List Nat} {t : Nat} (h : t ∈ a) (g : t ∈ b) : meets a b = true := by
  unfold meets
  rw [List.any_eq_true]
  exact ⟨t, h, by simpa using g⟩
/-- How many have not come up. -/
def cntF (L : Nat → Bool) : Nat → Nat
  | 0 => 0
  | n + 1 => (if L n = true then 0 else 1) + cntF L n
theorem cntF_zero {L : Nat → Bool} : ∀ {n : Nat}, cntF L n = 0 → ∀ k, k < n → L k = true
  | n + 1, h, k, hk => by
    unfold cntF at h
    by_cases hn : k = n
    · subst hn
      by_cases hL : L k = true
      · exact hL
      · rw [if_neg hL] at h; omega
    · exact cntF_zero (n := n) (by omega) k (by omega)
theorem cntF_congr {L L' : Nat → Bool} : ∀ {n : Nat}, (∀ k, k < n → L k = L' k) → cntF L n = cntF L' n
  | 0, _ => rfl
  | n + 1, h => by unfold cntF; rw [h n (by omega), cntF_congr fun k hk => h k (by omega)]
theorem cntF_add {L : Nat → Bool} {i : Nat} : ∀ {n : Nat}, i < n → L i = false → cntF (fun k => L k || k == i) n + 1 = cntF L n
  | n + 1, hi, hL => by
    unfold cntF
    by_cases hn : n = i
    · subst hn
      have : cntF (fun k => L k || k == n) n = cntF L n := cntF_congr fun k hk => by
        have : (k == n) = false := by simp; omega
        simp [this]
      rw [this, hL]
      simp
      omega
    · have ih := cntF_add (n := n) (i := i) (L := L) (by omega) hL
      have : (n == i) = false := by simpa using hn
      simp only [this, Bool.or_false]
      omega
theorem cntF_none : ∀ {L : Nat → Bool} {n : Nat}, (∀ k, k < n → L k = false) → cntF L n = n
  | L, 0, _ => rfl
  | L, n + 1, h => by unfold cntF; rw [h n (by omega), cntF_none fun k hk => h k (by omega)]; simp; omega
theorem fold_lt {α : Type} {u : Nat → List (Nat × α)} {base : List (Nat × α)} {i : Nat} : ∀ {n : Nat}, i ≤ n → fold u (fun k => decide (k < i)) base n = fold u (fun _ => true) base i
  | n, h => by
    induction n with
    | zero => have : i = 0 := by omega
              subst this; rfl
    | succ n ih =>
      by_cases hn : i = n + 1
      · subst hn
        have : ∀ m, m ≤ n + 1 → fold u (fun k => decide (k < n + 1)) base m = fold u (fun _ => true) base m := by
          intro m hm
          induction m with
          | zero => rfl
          | succ m ih2 =>
            unfold fold
            rw [ih2 (by omega)]
            simp; omega
        exact this _ (Nat.le_refl _)
      · rw [← ih (by omega)]
        show (if decide (n < i) = true then _ else _) = _
        have : ¬ n < i := by omega
        simp [this]
section
variable {P : Program} {B : Base}
/-- A region, told. -/
structure Told (P : Program) (ops : List Oper) (st : St) (evs : Nat → Ev) (cs : List Chk) : Prop where
  ev : ∀ i o, ops[i]? = some o → EvOk P ops st.nx st.nt i o (evs i)
  ee : ∀ i t x, i < ops.length → look t (evs i).e = some x → look t (fold (fun k => (evs k).w) (fun _ => true) st.env i) = some x
  em : ∀ i s x, i < ops.length → look s (evs i).m = some x → look s (fold (fun k => (evs k).u) (fun _ => true) st.mem i) = some x
  chk : ∀ i, i < ops.length → ∃ c, cs[i]? = some c ∧ ChkOf c (evs i)
theorem mem_onsOf {o : Oper} {e : Edge} (h : e ∈ o.after.toList) (hb : Region.binds .any e = true) : e.on ∈ onsOf o :=
  List.mem_map.2 ⟨e, List.mem_filter.2 ⟨h, hb⟩, rfl⟩
theorem sched {ops : List Oper} {st : St} {evs : Nat → Ev} {cs : List Chk} (T : Told P ops st evs cs) (hb : backGo ops 0 = true) (hc : chkOk (ancGo ops []) [] cs = true)
    {Q : Exit → Act → World → Prop} (hQ : ∀ a w, RInv B evs st ops.length (fun _ => true) a w → Q .normal a w) :
    ∀ (fuel : Nat) (listed : Array Bool) (a : Act) (w : World), listed.size = ops.length → cntF (fun k => listed.getD k false) ops.length ≤ fuel →
      (∀ i o, ops[i]? = some o → listed.getD i false = true → ∀ j ∈ onsOf o, listed.getD j false = true) →
      RInv B evs st ops.length (fun k => listed.getD k false) a w → wpAny P .any ops.toArray Q fuel listed a w := by
  have done : ∀ (listed : Array Bool) (a : Act) (w : World), (∀ k, k < ops.length → listed.getD k false = true) → RInv B evs st ops.length (fun k => listed.getD k false) a w → Q .normal a w :=
    fun listed a w h hr => hQ a w (hr.congr h)
  have clashAnc : ∀ (L : Nat → Bool), (∀ i o, ops[i]? = some o → L i = true → ∀ j ∈ onsOf o, L j = true) → ∀ k i x y, k < i → cs[k]? = some x → cs[i]? = some y → clash x y = true → i < ops.length → L i = true → L k = true := by
    intro L hL k i x y hki hx hy hcl hi hLi
    have h1 := chkOk_ok hc hki (Nat.zero_le _) (by simpa using hx) (by simpa using hy) hcl
    cases hm : (ancGo ops [])[i]? with
    | none => rw [hm] at h1; simp at h1
    | some m =>
      rw [hm] at h1
      exact ancGo_ok ops [] (by simp) (by simpa using hL) i m hm hLi k h1
  have ready_iff : ∀ (listed : Array Bool), listed.size = ops.length → ∀ i, i ∈ Region.ready .any ops.toArray listed ↔ i < ops.length ∧ listed.getD i false = false ∧ ∀ o, ops[i]? = some o → ∀ j ∈ onsOf o, listed.getD j false = true := by
    intro listed hs i
    unfold Region.ready
    simp only [List.mem_filter, List.mem_range, List.size_toArray, Bool.and_eq_true, Bool.not_eq_true']
    constructor
    · rintro ⟨h1, h2, h3⟩
      refine ⟨h1, ?_, fun o ho j hj => ?_⟩
      · rw [Array.getD_eq_getD_getElem?] at h2 ⊢
        rw [Array.getElem?_eq_getElem (by omega)] at h2 ⊢
        exact h2
      · have h3' : (o.after.all fun e => !Region.binds .any e || listed.getD e.on false) = true := by
          have : (ops.toArray[i]?) = some o := by simpa using ho
          rw [this] at h3
          exact h3
        rw [Array.all_eq_true'] at h3'
        obtain ⟨e, he, rfl⟩ := List.mem_map.1 hj
        obtain ⟨he1, he2⟩ := List.mem_filter.1 he
        have := h3' e (by simpa using he1)
        rw [he2] at this
        simpa using this
    · rintro ⟨h1, h2, h3⟩
      refine ⟨h1, ?_, ?_⟩
      · rw [Array.getD_eq_getD_getElem?] at h2 ⊢
        rw [Array.getElem?_eq_getElem (by omega)] at h2 ⊢
        exact h2
      · have : (ops.toArray[i]?) = some ops[i] := by simp [h1]
        rw [this]
        show (ops[i].after.all fun e => !Region.binds .any e || listed.getD e.on false) = true
        rw [Array.all_eq_true']
        intro e he
        by_cases hbe : Region.binds .any e = true
        · rw [h3 ops[i] (by simp [h1]) e.on (mem_onsOf (by simpa using he) hbe)]
          simp
        · simp [hbe]
  intro fuel
  induction fuel with
  | zero =>
    intro listed a w hs hcnt hL hr
    have hall := cntF_zero (Nat.le_zero.1 hcnt)
    refine ⟨?_, done listed a w hall hr⟩
    rw [List.eq_nil_iff_forall_not_mem]
    intro i hi
    rw [ready_iff listed hs] at hi
    have := hall i hi.1
    rw [hi.2.1] at this
    cases this
  | succ fuel ih =>
    intro listed a w hs hcnt hL hr
    refine ⟨fun hnil => ?_, fun i hi => ?_⟩
    · refine done listed a w (fun k => ?_) hr
      induction k using Nat.strongRecOn with
      | ind k ihk =>
        intro hk
        cases hLk : listed.getD k false with
        | true => rfl
        | false =>
          have : k ∈ Region.ready .any ops.toArray listed := by
            rw [ready_iff listed hs]
            refine ⟨hk, hLk, fun o ho j hj => ?_⟩
            have := backGo_ok ops 0 k hb ho j hj
            exact ihk j (by omega) (by omega)
          rw [hnil] at this
          cases this
    · rw [ready_iff listed hs] at hi
      obtain ⟨hin, hLi, hdeps⟩ := hi
      have ho : ops[i]? = some ops[i] := by simp [hin]
      have hcl := fun k i' x y h1 h2 h3 h4 h5 h6 => clashAnc (fun k => listed.getD k false) hL k i' x y h1 h2 h3 h4 h5 h6
      -- those before it that clash have come up
      have hpre : ∀ k x y, k < i → cs[k]? = some x → cs[i]? = some y → clash x y = true → listed.getD k false = true := by
        intro k x y hki hx hy hc2
        have := clashAnc (fun k => listed.getD k false || k == i) (fun i' o' ho' hL' j hj => by
          simp only [Bool.or_eq_true] at hL' ⊢
          rcases hL' with hL' | hL'
          · exact .inl (hL i' o' ho' hL' j hj)
          · have : i' = i := by simpa using hL'
            subst this
            exact .inl (hdeps o' ho' j hj)) k i x y hki hx hy hc2 hin (by simp)
        simp only [Bool.or_eq_true] at this
        rcases this with h | h
        · exact h
        · have : k = i := by simpa using h
          omega
      obtain ⟨y, hy, hyo⟩ := T.chk i hin
      have hnew : ∀ k, (listed.setIfInBounds i true).getD k false = (listed.getD k false || k == i) := by
        intro k
        rw [Array.getD_eq_getD_getElem?, Array.getElem?_setIfInBounds, Array.getD_eq_getD_getElem?]
        by_cases hki : i = k
        · subst hki; simp [hs, hin]
        · have : (k == i) = false := by simpa using fun e => hki e.symm
          rw [if_neg hki, this, Bool.or_false]
      have hstep := RInv.step (Q := Q) (P := P) (all := ops) hr hin hLi (T.ev i _ ho)
        (fun t x hx => by
          rw [← T.ee i t x hin hx, ← fold_lt (Nat.le_of_lt hin)]
          refine fold_congr _ fun k hk hwk => ?_
          obtain ⟨z, hz, hzo⟩ := T.chk k hk
          rcases Nat.lt_trichotomy k i with h | h | h
          · simp only [h, decide_true]
            exact hpre k z y h hz hy (by simp [clash, meets_of (hzo.w t hwk) (List.mem_append_left _ (hyo.e t (by rw [hx]; rfl)))])
          · subst h; simpa using hLi
          · have : ¬ k < i := by omega
            simp only [this, decide_false]
            cases hLk : listed.getD k false with
            | false => rfl
            | true =>
              have := hcl i k y z h hy hz (by simp [clash, meets_of (hyo.e t (by rw [hx]; rfl)) (hzo.w t hwk)]) hk hLk
              rw [hLi] at this; cases this)
        (fun s x hx => by
          rw [← T.em i s x hin hx, ← fold_lt (Nat.le_of_lt hin)]
          refine fold_congr _ fun k hk hwk => ?_
          obtain ⟨z, hz, hzo⟩ := T.chk k hk
          rcases Nat.lt_trichotomy k i with h | h | h
          · simp only [h, decide_true]
            exact hpre k z y h hz hy (by simp [clash, meets_of (hzo.u s hwk) (List.mem_append_left _ (hyo.m s (by rw [hx]; rfl)))])
          · subst h; simpa using hLi
          · have : ¬ k < i := by omega
            simp only [this, decide_false]
            cases hLk : listed.getD k false with
            | false => rfl
            | true =>
              have := hcl i k y z h hy hz (by simp [clash, meets_of (hyo.m s (by rw [hx]; rfl)) (hzo.u s hwk)]) hk hLk
              rw [hLi] at this; cases this)
        (fun t k hk hik hLk hwi => by
          cases hwk : (look t (evs k).w).isSome with
          | false => rfl
          | true =>
            obtain ⟨z, hz, hzo⟩ := T.chk k hk
            have := hcl i k y z hik hy hz (by simp [clash, meets_of (hyo.w t hwi) (List.mem_append_right z.rd (hzo.w t hwk))]) hk hLk
            rw [hLi] at this; cases this)
        (fun s k hk hik hLk hwi => by
          cases hwk : (look s (evs k).u).isSome with
          | false => rfl
          | true =>
            obtain ⟨z, hz, hzo⟩ := T.chk k hk
            have := hcl i k y z hik hy hz (by simp [clash, meets_of (hyo.u s hwi) (List.mem_append_right z.tch (hzo.u s hwk))]) hk hLk
            rw [hLi] at this; cases this)
      have next : ∀ a' w', RInv B evs st ops.length (fun k => listed.getD k false || k == i) a' w' → wpAny P .any ops.toArray Q fuel (listed.setIfInBounds i true) a' w' := by
        intro a' w' hr'
        refine ih _ a' w' (by simpa using hs) ?_ (fun i' o' ho' hL' j hj => ?_) (hr'.congr fun k hk => (hnew k).symm)
        · rw [cntF_congr fun k hk => hnew k]
          have := cntF_add (L := fun k => listed.getD k false) hin hLi
          omega
        · rw [hnew] at hL' ⊢
          simp only [Bool.or_eq_true] at hL' ⊢
          rcases hL' with hL' | hL'
          · exact .inl (hL i' o' ho' hL' j hj)
          · have : i' = i := by simpa using hL'
            subst this
            exact .inl (hdeps o' ho' j hj)
      unfold wpOp
      have ho2 : ops.toArray[i]? = some ops[i] := by simp [hin]
      rw [ho2]
      simp only []
      rcases hstep with ⟨h1, h2⟩ | ⟨h1, h2⟩
      · rw [if_pos h1]
        exact .inl (Oper.wp_mono next h2)
      · rw [if_neg (by simp [h1])]
        exact next _ _ h2
end
end Go.Proofs.Ytalkadbpdaoifaa.AX
