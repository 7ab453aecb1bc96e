/- Scan, walked. -/
import Derived.Test.YtafajpjonmnjbaaDoorScan
import Derived.WalkMore
import Derived.Deep.LoopGhost
namespace Go.Proofs.YtafajpjonmnjbaaDoor.Fr
open Go.RowKit Go.Proofs.YtafajpjonmnjbaaDoorW.PrintWords Go.Proofs.YtafajpjonmnjbaaDoorW.PrintLast Go.Proofs.YtafajpjonmnjbaaDoorW.PrintMore Go.Proofs.YtafajpjonmnjbaaDoor.Kit Go.Proofs.YtafajpjonmnjbaaDoor.PFrameGets
set_option linter.unusedVariables false
set_option linter.unusedSimpArgs false
theorem pay_of_own {w : World} {base : Nat} {v : Value} {x : List Int} (h : Own .u8 5 w base v x) (hx : 1 ≤ x.length) :
    ∃ g c, v = .slice (some ⟨g, 0, none⟩) x.length c ∧ base ≤ g ∧ g < w.heap.size ∧ PayAt w g (some ⟨g, 0, none⟩, x.length, c) x := by
  have ho := Kd.own_of_R h
  rcases ho.2 with ⟨rfl, h0⟩ | ⟨g, cap, cur, rfl, hg, hh, hn, _, hs, ht⟩
  · omega
  · refine ⟨g, cap, rfl, hg, blk_lt hh, rfl, rfl, hn, cur, hh, by simpa using hs, ?_⟩
    simpa [encs, nums] using ht
/-- One payload more, behind an append to the row of headers. -/
theorem pays_snoc {wr w1 w2 : World} {base : Nat} {v : Value} {hs : List Hd} {xs : List (List Int)} {g c : Nat} {p : List Int} (hp : Pays wr base hs xs) (hb : Below wr.heap.size wr w1) (ho : Kd.R hds 22 wr base (fun _ => True) v hs)
    (hg : wr.heap.size ≤ g) (hlt : g < w1.heap.size) (pa : PayAt w1 g (some ⟨g, 0, none⟩, p.length, c) p) (hbase : base ≤ wr.heap.size) (hgr : w1.grownBy w2 v.ownBlock) : Pays w2 base (hs ++ [(some ⟨g, 0, none⟩, p.length, c)]) (xs ++ [p]) := by
  have h1 := hp.below hb
  have hty : ∀ k, v.ownBlock = some k → ∃ cs t, w1.heap[k]? = some (.cells cs t (0, 0)) ∧ t ≠ 5 := fun k hk => by
    obtain ⟨cells, hc⟩ := own_typed (Kd.own_of_R ho) k hk
    exact ⟨cells, 22, blk_below hc hb, by decide⟩
  have h2 : Pays w1 base (hs ++ [(some ⟨g, 0, none⟩, p.length, c)]) (xs ++ [p]) := by
    refine h1.snoc (by omega) hlt pa fun i h' x' g' e1 e2 e3 => ?_
    obtain ⟨hl, gs, hgl, ha, _⟩ := hp
    have hi : i < xs.length := (List.getElem?_eq_some_iff.1 e2).1
    obtain ⟨_, h4, h5⟩ := ha i h' x' (gs[i]'(by omega)) e1 e2 (List.getElem?_eq_getElem _)
    have := h5.hd.symm.trans e3
    simp only [Option.some.injEq, Addr.mk.injEq] at this
    omega
  exact h2.grown hgr hty
theorem info22 : (Tryd.prog.info? 22).map (fun i => (i.zero, i.size, i.bytes)) = some (some (.slice none 0 0), 1, 24) := by kernel_rfl
/-- What Scan tells. -/
def ScanPost (r : List (List Int) × Nat) (w : World) (e : Ending) (w' : World) : Prop :=
  ∃ v hs, e = .returned (.tuple #[v, .int .i64 (r.2 : Int)]) ∧ Kd.R hds 22 w' w.heap.size (fun _ => True) v hs ∧ Pays w' w.heap.size hs r.1 ∧ Below w.heap.size w w'
set_option maxHeartbeats 4000000 in
set_option maxRecDepth 100000 in
theorem Scan_calls (A0 : Option Addr) (c0 : Nat) (l0 : List Int) (w : World) (hr0 : Kd.C (Kd.int .u8) w A0 l0.length l0) (hc0 : l0.length ≤ c0) (hy : Bytes l0) (hT : Steps w) (hl : l0.length ≤ 1000000) :
    Calls Tryd.prog 19 #[.slice A0 l0.length c0] w (ScanPost (scanS l0) w) := by
  have HR0 := Aside0.mk hr0
  have HT := Aside0.mk hT
  have HY := Aside0.mk hy
  clear hr0 hT hy
  go_enter Tryd.func19, Tryd.ntmps19
  go_wp2
  go_step3
  go_wp2
  go_step3
  go_wp2
  go_loopw [4, 5] (fun v i wr => ∃ (a : Nat) (hs : List Hd) (dn : List (List Int)), i = .int .i64 (a : Int) ∧ Aside0 (a ≤ l0.length) ∧ Aside0 (scanS l0 = (dn ++ (scanS (l0.drop a)).1, a + (scanS (l0.drop a)).2)) ∧ Aside0 (Kd.R hds 22 wr w.heap.size (fun _ => True) v hs) ∧ Aside0 (Pays wr w.heap.size hs dn) ∧ Aside0 (Below w.heap.size w wr) ∧ Aside0 (9 * dn.length ≤ a)) (fun _ i _ => l0.length - (intOf i).toNat)
  case atStart => exact ⟨0, [], [], rfl, ⟨by omega⟩, ⟨by simp⟩, ⟨Kd.R_nil _ _ _ _ _⟩, ⟨Pays.nil _ _⟩, ⟨Below.refl _ _⟩, ⟨by simp⟩⟩
  case round =>
    obtain ⟨a, hs, dn, rfl, HA, HE, HO, HP, HB, HN⟩ := hrel
    have ha := HA.out
    have hsl : hs.length ≤ 1000000 := by have := HN.out; have := HP.out.1; omega
    obtain ⟨A', hcut, hCr⟩ := cut_l (P := Tryd.prog) Tryd.underlying22 elem22 sizeOf5 HR0.out hc0 a (a : Int) rfl ha
    obtain ⟨rest, hrest⟩ : ∃ r, r = l0.drop a := ⟨_, rfl⟩
    rw [← hrest] at hCr
    have hlr : rest.length = l0.length - a := by rw [hrest]; simp
    have hyr : Bytes rest := fun x hx => HY.out x (List.mem_of_mem_drop (hrest ▸ hx))
    rw [← hlr] at hCr
    have hcall : ∀ u, Below w.heap.size w u → Calls Tryd.prog 17 #[.slice A' (l0.length - a) (c0 - a)] u (GetPost (getS rest).1 (getS rest).2.1 (getS rest).2.2 u) := fun u hu => by
      have := Get_calls A' (c0 - a) rest u (Kd.C_below hCr hu) (by omega) hyr (HT.out.below hu)
      rw [hlr] at this
      exact this
    have HC := Aside0.mk hcall
    have HRS := Aside0.mk hrest
    have HLR := Aside0.mk hlr
    clear hcall hCr hyr hrest hlr
    by_cases he : (getS rest).2.2 = 0
    · have hok := getS_ok he
      obtain ⟨p, hp⟩ : ∃ p, p = (getS rest).1 := ⟨_, rfl⟩
      have hpl : 1 ≤ p.length := by rw [hp, hok.2.2.2.2.1]; simp; omega
      have hn2 : (getS rest).2.1 = (getN rest : Int) := by omega
      obtain ⟨n, hn⟩ : ∃ n, n = getN rest := ⟨_, rfl⟩
      have hnl : a + n ≤ l0.length := by have := HLR.out; omega
      have hn9 : 9 ≤ n := by omega
      have hc2 : ∀ u, Below w.heap.size w u → Calls Tryd.prog 17 #[.slice A' (l0.length - a) (c0 - a)] u (GetPost p (n : Int) 0 u) := fun u hu => by
        have := HC.out u hu
        rw [he, hn2, ← hp, ← hn] at this
        exact this
      have HC2 := Aside0.mk hc2
      have HE2 := Aside0.mk (scan_step HE.out (by rw [← HRS.out]; exact he))
      rw [← HRS.out, ← hp, ← hn] at HE2
      have HPL := Aside0.mk hpl
      clear hc2 hok he hp hn hn2 hpl
      go_wp2_with (first | (go_at_call 17; (with_reducible refine (HC2.out _ HB.out).mono ?_); rintro e w1 ⟨v1, rfl, ho1, hb1⟩; obtain ⟨g1, c1, ev1, hg1, hlt1, hpay⟩ := pay_of_own ho1 HPL.out; subst ev1; have HPY := Aside0.mk hpay; have HB1 := Aside0.mk hb1; have HG1 := Aside0.mk hg1; have HLT := Aside0.mk hlt1; clear ho1 hb1 hpay hg1 hlt1) | ((with_reducible refine gate_dst (N := 22) rfl ?_); refine appS_event Hd.val (fun _ => rfl) (w0 := w) w.heap.size rfl (N := 22) rfl _ _ 36 22 (.slice none 0 0) 24 rfl Tryd.underlying36 info22 rfl (by omega) u4 hs (some ⟨g1, 0, none⟩, p.length, c1) rfl rfl (Kd.R_below HO.out HB1.out) (below_then HB.out HB.out.size HB1.out) (below_then HB.out HB.out.size HB1.out).size (by omega) ?_; intro v2 w2 ho2 hb2 hg2 hat2; have HO2 : Aside0 (hds.R 22 w2 w.heap.size (fun _ => True) v2 (hs ++ [((some ⟨g1, 0, none⟩, p.length, c1) : Hd)])) := ⟨ho2⟩; have HB2 := Aside0.mk hb2; have HP2 := Aside0.mk (pays_snoc HP.out HB1.out HO.out HG1.out HLT.out HPY.out HB.out.size hg2); clear ho2 hb2 hg2 hat2))
      go_roundw
      case rel => exact ⟨a + n, hs ++ [((some ⟨g1, 0, none⟩, p.length, c1) : Hd)], dn ++ [p], by go_num, ⟨hnl⟩, HE2, HO2, HP2, HB2, ⟨by have := HN.out; simp; omega⟩⟩
      case measure => simp [intOf]; omega
    · obtain ⟨q, hq⟩ : ∃ q, q = (getS rest).2.2 := ⟨_, rfl⟩
      have HE2 := Aside0.mk (scan_end HE.out (by rw [← HRS.out]; exact he))
      have hno := getS_no he
      have hc2 : ∀ u, Below w.heap.size w u → Calls Tryd.prog 17 #[.slice A' (l0.length - a) (c0 - a)] u (GetPost [] 0 q u) := fun u hu => by
        have := HC.out u hu
        rw [hno.1, hno.2, ← hq] at this
        exact this
      have HC2 := Aside0.mk hc2
      rw [← hq] at he
      have hq0 : (q != 0) = true := bne_iff_ne.mpr he
      clear hc2 hno hq he
      go_wp2_with (first | (go_at_call 17; (with_reducible refine (HC2.out _ HB.out).mono ?_); rintro e w1 ⟨v1, rfl, ho1, hb1⟩; have HB1 := Aside0.mk hb1; clear ho1 hb1))
      rw [Exit.noGoto_ret]
      go_ret2
      refine ⟨u4, hs, by rw [HE2.out]; simp, Kd.R_below HO.out HB1.out, ?_, below_then HB.out HB.out.size HB1.out⟩
      rw [HE2.out]
      exact HP.out.below HB1.out
end Go.Proofs.YtafajpjonmnjbaaDoor.Fr
