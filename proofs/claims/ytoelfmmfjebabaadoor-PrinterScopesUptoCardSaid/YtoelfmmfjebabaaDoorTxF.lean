/- Layer 2: what stands in quotes, of the reference. -/
import Derived.Test.YtoelfmmfjebabaaDoorTxE
namespace Go.Proofs.YtoelfmmfjebabaaDoor
open Go Go.Eng
open Int renaming reduceEq → Za, reduceToNat → Zm, reduceLE → Zn, reduceLT → Zo, reduceAdd → Zp, reduceSub → Zq, reduceNeg → Zr, reducePow → Zt, reduceNegSucc → Zv
open UInt8 renaming reduceOfNat → Zb
open List renaming mapM_cons → Zc, mapM_nil → Zd
open Nat renaming reduceAdd → Ze, reduceMul → Zf, reduceMod → Zg, reduceDiv → Zh, reduceEqDiff → Zi, reduceBEq → Zj, reduceLeDiff → Zk, reduceSub → Zl, reducePow → Zs, reduceLT → Zu
set_option linter.unusedSimpArgs false
set_option linter.unusedVariables false
set_option maxRecDepth 20000

theorem drop_getD {s : List UInt8} {i j : Nat} : s.getD (i + j) 0 = (s.drop i).getD j 0 := by
  simp [List.getD_eq_getElem?_getD, List.getElem?_drop]
def stepR (r : List UInt8) : UInt8 × Nat :=
  if (((r.getD 0 0).toNat : Int) == 92 && decide (2 < r.length) && (((r.getD 1 0).toNat : Int) == 34 || ((r.getD 1 0).toNat : Int) == 92)) = true then (r.getD 1 0, 2)
  else if (((r.getD 0 0).toNat : Int) == 92 && decide (4 < r.length) && ((r.getD 1 0).toNat : Int) == 120 && decide (((hexL.idxOf (r.getD 2 0) : Nat) : Int) < 16) && decide (((hexL.idxOf (r.getD 3 0) : Nat) : Int) < 16)) = true then
    (UInt8.ofNat (16 * hexL.idxOf (r.getD 2 0) + hexL.idxOf (r.getD 3 0)), 4)
  else (r.getD 0 0, 1)
def decR : Nat → List UInt8 → List UInt8
  | 0, _ => []
  | n + 1, r => if r.length < 2 then [] else (stepR r).1 :: decR n (r.drop (stepR r).2)
def refU (s : List UInt8) : Option (List UInt8) := if quote (decR s.length (s.drop 1)) = s then some (decR s.length (s.drop 1)) else none
theorem decR_len : ∀ (n : Nat) (r : List UInt8), (decR n r).length ≤ n
  | 0, r => by simp [decR]
  | n + 1, r => by
    rw [decR]; split
    · simp
    · have := decR_len n (r.drop (stepR r).2); simp; omega
end Go.Proofs.YtoelfmmfjebabaaDoor
