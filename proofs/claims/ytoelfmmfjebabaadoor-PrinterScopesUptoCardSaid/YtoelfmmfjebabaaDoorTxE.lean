/- Layer 2: what stands in quotes. -/
import Derived.Test.YtoelfmmfjebabaaDoorTxD
import Derived.Test.YtoelfmmfjebabaaDoorShelf
namespace Go.Proofs.YtoelfmmfjebabaaDoor
open Go Go.Eng
open Int renaming reduceEq → Za, reduceToNat → Zm, reduceLE → Zn, reduceLT → Zo, reduceAdd → Zp, reduceSub → Zq, reduceNeg → Zr, reducePow → Zt, reduceNegSucc → Zv
open UInt8 renaming reduceOfNat → Zb
open List renaming mapM_cons → Zc, mapM_nil → Zd
open Nat renaming reduceAdd → Ze, reduceMul → Zf, reduceMod → Zg, reduceDiv → Zh, reduceEqDiff → Zi, reduceBEq → Zj, reduceLeDiff → Zk, reduceSub → Zl, reducePow → Zs, reduceLT → Zu
set_option linter.unusedSimpArgs false
set_option linter.unusedVariables false
set_option maxRecDepth 20000

def hxI (x y : UInt8) : Int := IntKind.u8.wrap (IntKind.i64.wrap ((BitVec.ofInt 64 (IntKind.i64.wrap (Go.Lib.indexByte hexL x * 16)) ||| BitVec.ofInt 64 (Go.Lib.indexByte hexL y)).toNat : Int))
def hx2 (x y : UInt8) : UInt8 := UInt8.ofNat (hxI x y).toNat
theorem hx_eq (x y : UInt8) : IntKind.u8.wrap (IntKind.i64.wrap ((BitVec.ofInt 64 (IntKind.i64.wrap (Go.Lib.indexByte [48, 49, 50, 51, 52, 53, 54, 55, 56, 57, 97, 98, 99, 100, 101, 102] x * 16)) ||| BitVec.ofInt 64 (Go.Lib.indexByte [48, 49, 50, 51, 52, 53, 54, 55, 56, 57, 97, 98, 99, 100, 101, 102] y)).toNat : Int)) = ((hx2 x y).toNat : Int) := by
  show hxI x y = _
  unfold hx2
  have h : 0 ≤ hxI x y ∧ hxI x y < 256 := by unfold hxI; rw [wrap_u8]; omega
  have e : (UInt8.ofNat (hxI x y).toNat).toNat = (hxI x y).toNat := by
    rw [UInt8.toNat_ofNat']; exact Nat.mod_eq_of_lt (by omega)
  rw [e]; omega
/-- The byte at the beginning, and how many bytes it takes. -/
def stepU (r : List UInt8) : UInt8 × Nat :=
  if ((((r.getD 0 0).toNat : Int) == 92) && decide ((2 : Int) ≤ r.length)) = true then
    (if ((((r.getD 1 0).toNat : Int) == 120) && decide ((4 : Int) ≤ r.length)) = true then (hx2 (r.getD 2 0) (r.getD 3 0), 4) else (r.getD 1 0, 2))
  else (r.getD 0 0, 1)
theorem stepU_cons (c0 : UInt8) (rest : List UInt8) : stepU (c0 :: rest) = if (((c0.toNat : Int) == 92) && decide ((2 : Int) ≤ ((rest.length + 1 : Nat) : Int))) = true then
    (if ((((rest.getD 0 0).toNat : Int) == 120) && decide ((4 : Int) ≤ ((rest.length + 1 : Nat) : Int))) = true then (hx2 (rest.getD 1 0) (rest.getD 2 0), 4) else (rest.getD 0 0, 2)) else (c0, 1) := rfl
def unqL : Nat → List UInt8 → Option (List UInt8)
  | _, [] => some []
  | 0, _ :: _ => none
  | n + 1, c :: r => if q1 (stepU (c :: r)).1 = (c :: r).take (stepU (c :: r)).2 then (unqL n ((c :: r).drop (stepU (c :: r)).2)).map ((stepU (c :: r)).1 :: ·) else none
def unquote (s : List UInt8) : Option (List UInt8) :=
  if (decide ((s.length : Int) < 2) || ((s.getD 0 0).toNat : Int) != 34 || ((s.getD (s.length - 1) 0).toNat : Int) != 34) = true then none else unqL s.length ((s.take (s.length - 1)).drop 1)
def retU : Option (List UInt8) → Value
  | some l => .tuple #[.string (bs l), .int .i64 0]
  | none => .tuple #[.string (bs []), .int .i64 10]
end Go.Proofs.YtoelfmmfjebabaaDoor
