/- Values that code is handed: slices, and the program's own structs. -/
import Derived.Test.YtalkadbpdaoifaaAxFacts
namespace Go.Proofs.Ytalkadbpdaoifaa.AX
open Go Go.RowKit
set_option linter.unusedVariables false
set_option linter.unusedSimpArgs false
@[simp] theorem wr64 {n : Int} (h1 : -9223372036854775808 ≤ n) (h2 : n ≤ 9223372036854775807) : IntKind.i64.wrap n = n := by rw [IntKind.wrap_i64]; omega
@[simp] theorem wr8 (n : Int) : IntKind.u8.wrap n = n % 256 := by simp [IntKind.wrap, IntKind.bits, IntKind.signed]
structure Rd where
  key : ByteArray
  tm : Int
  ac : Int
structure Wr where
  key : ByteArray
  val : ByteArray
structure Cmd where
  kind : Int
  cl : Int
  nm : Int
  tm : Int
  ac : Int
  sh : Int
  rs : List Rd
  ws : List Wr
  cm : Bool
structure Rec where
  ir : Int
  is : Int
  st : Int
  pn : Int
  pr : Int
  bn : Int
  br : Int
  c : Cmd
  sq : Int
  d0 : Int
  d1 : Int
  d2 : Int
  d3 : Int
  d4 : Int
  d5 : Int
  d6 : Int
  kept : Bool
structure Msg where
  kind : Int
  fr : Int
  to : Int
  bn : Int
  br : Int
  r : Rec
abbrev i64 (n : Int) : V := .int .i64 n
@[simp] def Rd.cs (x : Rd) : List V := [.str x.key, i64 x.tm, i64 x.ac]
@[simp] def Wr.cs (x : Wr) : List V := [.str x.key, .str x.val]
@[simp] def Cmd.cs (c : Cmd) : List V := [i64 c.kind, i64 c.cl, i64 c.nm, i64 c.tm, i64 c.ac, i64 c.sh, .sl (c.rs.map Rd.cs), .sl (c.ws.map Wr.cs), .bool c.cm]
@[simp] def Rec.cs (r : Rec) : List V := [i64 r.ir, i64 r.is, i64 r.st, i64 r.pn, i64 r.pr, i64 r.bn, i64 r.br] ++ r.c.cs ++ [i64 r.sq, i64 r.d0, i64 r.d1, i64 r.d2, i64 r.d3, i64 r.d4, i64 r.d5, i64 r.d6, .bool r.kept]
@[simp] def Msg.cs (m : Msg) : List V := [i64 m.kind, i64 m.fr, i64 m.to, i64 m.bn, i64 m.br] ++ m.r.cs
end Go.Proofs.Ytalkadbpdaoifaa.AX
