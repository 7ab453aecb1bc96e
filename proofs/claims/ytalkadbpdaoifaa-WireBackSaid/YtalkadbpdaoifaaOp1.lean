/- Commands, records and messages, read as data. -/
import Derived.Test.YtalkadbpdaoifaaAxY
import Derived.Test.YtalkadbpdaoifaaAxRw
namespace Go.Proofs.Ytalkadbpdaoifaa.AX
open Go Go.RowKit
set_option linter.unusedSimpArgs false
set_option linter.unusedVariables false
set_option maxRecDepth 100000
def yes {α : Type} : α → Prop := fun _ => True
theorem o_int : OpensR Try.prog 3 1 (fun n => [i64 n]) yes := (opensR_int (k := .i64) Try.underlying3 (by kernel_rfl)).imp id (fun _ _ => rfl) fun _ _ => trivial
theorem o_bool : OpensR Try.prog 4 1 (fun b => [V.bool b]) yes := opensR_bool Try.underlying4 (by kernel_rfl)
theorem o_str : OpensR Try.prog 9 1 (fun s => [V.str s]) yes := (opensR_string Try.underlying9 (by kernel_rfl)).imp id (fun _ _ => rfl) fun _ _ => trivial
abbrev two (x : Int × Int) : List V := [i64 x.1, i64 x.2]
theorem o_inst : OpensR Try.prog 23 2 two yes := (opensR_struct Try.underlying23 (by kernel_rfl) (opensRF_cons rfl o_int rfl (opensRF_one rfl o_int))).imp id (fun _ _ => rfl) fun _ _ => trivial
theorem o_bal : OpensR Try.prog 25 2 two yes := (opensR_struct Try.underlying25 (by kernel_rfl) (opensRF_cons rfl o_int rfl (opensRF_one rfl o_int))).imp id (fun _ _ => rfl) fun _ _ => trivial
theorem o_txn : OpensR Try.prog 27 2 two yes := (opensR_struct Try.underlying27 (by kernel_rfl) (opensRF_cons rfl o_int rfl (opensRF_one rfl o_int))).imp id (fun _ _ => rfl) fun _ _ => trivial
theorem o_stm : OpensR Try.prog 29 2 two yes := (opensR_struct Try.underlying29 (by kernel_rfl) (opensRF_cons rfl o_int rfl (opensRF_one rfl o_int))).imp id (fun _ _ => rfl) fun _ _ => trivial
theorem o_read : OpensR Try.prog 74 3 Rd.cs yes := (opensR_struct Try.underlying74 (by kernel_rfl) (opensRF_cons rfl o_str rfl (opensRF_one rfl o_stm))).imp (fun x => (⟨x.1, x.2.1, x.2.2⟩ : Rd)) (fun _ _ => rfl) fun _ _ => trivial
theorem o_write : OpensR Try.prog 76 2 Wr.cs yes := (opensR_struct Try.underlying76 (by kernel_rfl) (opensRF_cons rfl o_str rfl (opensRF_one rfl o_str))).imp (fun x => (⟨x.1, x.2⟩ : Wr)) (fun _ _ => rfl) fun _ _ => trivial
theorem o_reads : OpensR Try.prog 30 1 (fun l : List Rd => [V.sl (l.map Rd.cs)]) yes := (opensR_slice Try.underlying30 (by kernel_rfl) o_read).imp id (fun _ _ => rfl) fun _ _ => trivial
theorem o_writes : OpensR Try.prog 31 1 (fun l : List Wr => [V.sl (l.map Wr.cs)]) yes := (opensR_slice Try.underlying31 (by kernel_rfl) o_write).imp id (fun _ _ => rfl) fun _ _ => trivial
theorem o_cmd : OpensR Try.prog 33 9 Cmd.cs yes := (opensR_struct Try.underlying33 (by kernel_rfl) (opensRF_cons rfl o_int rfl (opensRF_cons rfl o_txn rfl (opensRF_cons rfl o_stm rfl (opensRF_cons rfl o_int rfl (opensRF_cons rfl o_reads rfl (opensRF_cons rfl o_writes rfl (opensRF_one rfl o_bool)))))))).imp
  (fun x => (⟨x.1, x.2.1.1, x.2.1.2, x.2.2.1.1, x.2.2.1.2, x.2.2.2.1, x.2.2.2.2.1, x.2.2.2.2.2.1, x.2.2.2.2.2.2⟩ : Cmd)) (fun _ _ => rfl) fun _ _ => trivial
structure D7 where
  a : Int
  b : Int
  c : Int
  d : Int
  e : Int
  f : Int
  g : Int
theorem o_deps : OpensR Try.prog 35 7 (fun x : D7 => [i64 x.a, i64 x.b, i64 x.c, i64 x.d, i64 x.e, i64 x.f, i64 x.g]) yes := (opensR_array (n := 7) (z := 1) Try.underlying35 (by kernel_rfl) o_int).imp
  (fun l => (⟨l.getD 0 0, l.getD 1 0, l.getD 2 0, l.getD 3 0, l.getD 4 0, l.getD 5 0, l.getD 6 0⟩ : D7)) (fun l h => by
    match l, h.1 with
    | [a, b, c, d, e, f, g], _ => rfl) fun _ _ => trivial
theorem o_rec : OpensR Try.prog 37 25 Rec.cs yes := (opensR_struct Try.underlying37 (by kernel_rfl) (opensRF_cons rfl o_inst rfl (opensRF_cons rfl o_int rfl (opensRF_cons rfl o_bal rfl (opensRF_cons rfl o_bal rfl (opensRF_cons rfl o_cmd rfl (opensRF_cons rfl o_int rfl (opensRF_cons rfl o_deps rfl (opensRF_one rfl o_bool))))))))).imp
  (fun x => (⟨x.1.1, x.1.2, x.2.1, x.2.2.1.1, x.2.2.1.2, x.2.2.2.1.1, x.2.2.2.1.2, x.2.2.2.2.1, x.2.2.2.2.2.1, x.2.2.2.2.2.2.1.a, x.2.2.2.2.2.2.1.b, x.2.2.2.2.2.2.1.c, x.2.2.2.2.2.2.1.d, x.2.2.2.2.2.2.1.e, x.2.2.2.2.2.2.1.f, x.2.2.2.2.2.2.1.g, x.2.2.2.2.2.2.2⟩ : Rec)) (fun _ _ => rfl) fun _ _ => trivial
end Go.Proofs.Ytalkadbpdaoifaa.AX
