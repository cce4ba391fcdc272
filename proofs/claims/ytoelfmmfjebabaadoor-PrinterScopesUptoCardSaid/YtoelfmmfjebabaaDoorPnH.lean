/- Layer 10: expressions as data, how memory holds them; their texts. -/
import Derived.Test.YtoelfmmfjebabaaDoorPnG
namespace Go.Proofs.YtoelfmmfjebabaaDoor
open Go Go.Eng
open Int renaming reduceEq → Za, reduceToNat → Zm, reduceLE → Zn, reduceLT → Zo, reduceAdd → Zp, reduceSub → Zq, reduceNeg → Zr, reducePow → Zt, reduceNegSucc → Zv
open UInt8 renaming reduceOfNat → Zb
open List renaming mapM_cons → Zc, mapM_nil → Zd
open Nat renaming reduceAdd → Ze, reduceMul → Zf, reduceMod → Zg, reduceDiv → Zh, reduceEqDiff → Zi, reduceBEq → Zj, reduceLeDiff → Zk, reduceSub → Zl, reducePow → Zs, reduceLT → Zu
set_option linter.unusedSimpArgs false
set_option linter.unusedVariables false
set_option maxRecDepth 20000

inductive Ex' where
  | mk (op : Int) (v : LV) (nm : Str) (kids : List Ex') (names : List Str) : Ex'
def Ex'.op : Ex' → Int | .mk o _ _ _ _ => o
def Ex'.kids : Ex' → List Ex' | .mk _ _ _ k _ => k
def nilX : Ex' := .mk 0 ⟨0, false, 0, [], [], []⟩ [] [] []
/-- The twelve cells. -/
def xcells (op : Int) (v : LV) (u1 u2 : Value) (nm : Str) (k n : Value) : List Value :=
  [.int .i64 op, .int .i64 v.kind, .bool v.bo, .int .i64 v.n, .string (bs v.tx), .string (bs v.ty), .string (bs v.id), u1, u2, .string (bs nm), k, n]
inductive RepX (F : Base) : List Value → Ex' → Prop
  | mk (op : Int) (v : LV) (u1 u2 : Value) (nm : Str) (a1 : Option Addr) (c1 : Nat) (kids : List Ex') (g1 : Nat → List Value) (vn : Value) (names : List Str)
      (hu : (∃ a n c, u1 = .slice a n c) ∧ ∃ a n c, u2 = .slice a n c) (hop : I64 op) (hk : I64 v.kind) (hn : I64 v.n) (hl1 : kids.length ≤ 9223372036854775807) (hc1 : kids.length ≤ c1)
      (h1 : ∀ (i : Nat) (t : Ex'), kids[i]? = some t → Cl F a1 12 i (g1 i)) (r1 : ∀ (i : Nat) (t : Ex'), kids[i]? = some t → RepX F (g1 i) t) (hN : SlS F vn names) :
      RepX F (xcells op v u1 u2 nm (.slice a1 kids.length c1) vn) (.mk op v nm kids names)
theorem RepX.mono {F F' : Base} (hF : ∀ b o, F b = some o → F' b = some o) {cs : List Value} {t : Ex'} (h : RepX F cs t) : RepX F' cs t := by
  induction h with
  | mk op v u1 u2 nm a1 c1 kids g1 vn names hu hop hk hn hl1 hc1 h1 r1 hN i1 =>
    exact .mk op v u1 u2 nm a1 c1 kids g1 vn names hu hop hk hn hl1 hc1 (fun i t h => (h1 i t h).mono hF) i1 (hN.mono hF)
theorem RepX.form {F : Base} {cs : List Value} {t : Ex'} (h : RepX F cs t) : ∃ op k bo n s1 s2 s3 d1 d2 d3 d4 d5 d6 nm a1 n1 c1 a2 n2 c2, cs = [.int .i64 op, .int .i64 k, .bool bo, .int .i64 n, .string (bs s1), .string (bs s2), .string (bs s3), .slice d1 d2 d3, .slice d4 d5 d6, .string (bs nm), .slice a1 n1 c1, .slice a2 n2 c2] := by
  cases h with
  | mk op v u1 u2 nm a1 c1 kids g1 vn names hu hop hk hn hl1 hc1 h1 r1 hN =>
    obtain ⟨a, c, rfl, -⟩ := hN
    obtain ⟨⟨d1, d2, d3, rfl⟩, d4, d5, d6, rfl⟩ := hu
    exact ⟨_, _, _, _, _, _, _, _, _, _, _, _, _, _, _, _, _, _, _, _, rfl⟩
/-! ### Texts -/
def signT (op : Int) : Str := if op = 4 then [32, 38, 38, 32] else if op = 5 then [32, 124, 124, 32] else if op = 8 then [32, 61, 61, 32] else if op = 9 then [32, 60, 32] else if op = 10 then [32, 60, 61, 32] else if op = 11 then [32, 43, 32] else if op = 12 then [32, 45, 32] else if op = 13 then [32, 42, 32] else if op = 15 then [32, 105, 110, 32] else []
def isTwo (op : Int) : Bool := op == 4 || op == 5 || op == 8 || op == 9 || op == 10 || op == 11 || op == 12 || op == 13 || op == 15
def methT (op : Int) : Str := if op = 21 then [46, 99, 111, 110, 116, 97, 105, 110, 115, 40] else if op = 22 then [46, 99, 111, 110, 116, 97, 105, 110, 115, 65, 108, 108, 40] else if op = 23 then [46, 99, 111, 110, 116, 97, 105, 110, 115, 65, 110, 121, 40] else []
def varL : List Str := [[112, 114, 105, 110, 99, 105, 112, 97, 108], [97, 99, 116, 105, 111, 110], [114, 101, 115, 111, 117, 114, 99, 101], [99, 111, 110, 116, 101, 120, 116]]
def slotL : List Str := [[112, 114, 105, 110, 99, 105, 112, 97, 108], [114, 101, 115, 111, 117, 114, 99, 101]]
/-- May an operator have so many of them, and so many names? -/
def arOk (op : Int) (nk nn : Nat) : Bool := !(decide (3 < kidsI op) || (decide (0 ≤ kidsI op) && ((nk : Int) != kidsI op))) && !(op == 20 && ((nn : Int) != (nk : Int)))
def own1 (o : Int) (t : Str) : Str := if o = 6 ∨ o = 14 then 40 :: (t ++ [41]) else t
/-- Between commas, each with what stands ahead of it. -/
def rowT (ahead : Nat → Str) : Nat → List Str → Str
  | _, [] => []
  | i, t :: r => (if 0 < i then [44, 32] else []) ++ (ahead i ++ (t ++ rowT ahead (i + 1) r))
def nodeT (op : Int) (v : LV) (nm : Str) (names : List Str) (os : List Int) (ks : List Str) : Str :=
  if op = 1 then litT v else if op = 2 then nm else if op = 3 then 63 :: nm
  else if isTwo op then 40 :: (ks.getD 0 [] ++ (signT op ++ (ks.getD 1 [] ++ [41])))
  else if op = 6 then 33 :: ks.getD 0 [] else if op = 14 then 45 :: ks.getD 0 []
  else if op = 7 then [40, 105, 102, 32] ++ (ks.getD 0 [] ++ ([32, 116, 104, 101, 110, 32] ++ (ks.getD 1 [] ++ ([32, 101, 108, 115, 101, 32] ++ (ks.getD 2 [] ++ [41])))))
  else if op = 16 then 40 :: (ks.getD 0 [] ++ ([32, 105, 115, 32] ++ (nm ++ [41])))
  else if op = 17 then 40 :: (ks.getD 0 [] ++ ([32, 104, 97, 115, 32] ++ (nm ++ [41])))
  else if op = 18 then own1 (os.getD 0 0) (ks.getD 0 []) ++ (if nameB nm then 46 :: nm else 91 :: (quote nm ++ [93]))
  else if op = 19 then 91 :: (rowT (fun _ => []) 0 ks ++ [93])
  else if op = 20 then 123 :: (rowT (fun i => quote (names.getD i []) ++ [58, 32]) 0 ks ++ [125])
  else own1 (os.getD 0 0) (ks.getD 0 []) ++ (methT op ++ (ks.getD 1 [] ++ [41]))
def nodeOk (op : Int) (v : LV) (nm : Str) : Bool :=
  if op = 1 then litOk v else if op = 2 then decide (nm ∈ varL) else if op = 3 then decide (nm ∈ slotL) else if op = 16 then okPath nm else if op = 17 then nameB nm else true
mutual
/-- An expression's text. -/
def pt : Ex' → Str
  | .mk op v nm kids names => if arOk op kids.length names.length then nodeT op v nm names (kids.map Ex'.op) (ptL kids) else []
def ptL : List Ex' → List Str
  | [] => []
  | x :: l => pt x :: ptL l
end
mutual
/-- May it be told? -/
def okX : Ex' → Bool
  | .mk op v nm kids names => arOk op kids.length names.length && (okL kids && nodeOk op v nm)
def okL : List Ex' → Bool
  | [] => true
  | x :: l => okX x && okL l
end
mutual
/-- How much there is of it. -/
def wt : Ex' → Nat
  | .mk _ v nm kids names => 12 + (v.tx.length + v.ty.length + v.id.length + nm.length) + wtL kids + (names.map fun x => x.length + 1).sum
def wtL : List Ex' → Nat
  | [] => 0
  | x :: l => wt x + wtL l
end
mutual
def depX : Ex' → Nat
  | .mk _ _ _ kids _ => depXL kids + 1
def depXL : List Ex' → Nat
  | [] => 0
  | x :: l => max (depX x) (depXL l)
end
theorem ptL_get : ∀ {l : List Ex'} {i : Nat} {x : Ex'}, l[i]? = some x → (ptL l)[i]? = some (pt x)
  | y :: l, 0, x, h => by simp only [List.getElem?_cons_zero, Option.some.injEq] at h; subst h; simp [ptL]
  | y :: l, i + 1, x, h => by rw [ptL, List.getElem?_cons_succ]; exact ptL_get (by simpa using h)
theorem ptL_len : ∀ l : List Ex', (ptL l).length = l.length
  | [] => rfl
  | x :: l => by rw [ptL, List.length_cons, List.length_cons, ptL_len l]
theorem ptL_getD {l : List Ex'} {i : Nat} (h : i < l.length) : (ptL l).getD i [] = pt (l.getD i nilX) := by
  rw [List.getD_eq_getElem?_getD, ptL_get (getDs nilX h)]; rfl
theorem wtL_mem : ∀ {l : List Ex'} {i : Nat} {x : Ex'}, l[i]? = some x → wt x ≤ wtL l
  | y :: l, 0, x, h => by simp only [List.getElem?_cons_zero, Option.some.injEq] at h; subst h; rw [wtL]; omega
  | y :: l, i + 1, x, h => by rw [wtL]; have := wtL_mem (l := l) (i := i) (x := x) (by simpa using h); omega
theorem wt_pos : ∀ x : Ex', 12 ≤ wt x
  | .mk .. => by rw [wt]; omega
theorem wtL_len : ∀ l : List Ex', 12 * l.length ≤ wtL l
  | [] => by simp
  | x :: l => by rw [wtL, List.length_cons]; have := wtL_len l; have := wt_pos x; omega
/-- Texts are no longer than thirty times what there is. -/
def lenS : List Str → Nat
  | [] => 0
  | x :: l => x.length + lenS l
theorem getD_lenS : ∀ (l : List Str) (i : Nat), (l.getD i []).length ≤ lenS l
  | [], i => by simp
  | x :: l, 0 => by simp [lenS]
  | x :: l, i + 1 => by have := getD_lenS l i; rw [List.getD_cons_succ, lenS]; omega
theorem get3_lenS (l : List Str) : (l.getD 0 []).length + ((l.getD 1 []).length + (l.getD 2 []).length) ≤ lenS l := by
  match l with
  | [] => simp
  | [a] => simp [lenS]
  | [a, b] => simp [lenS]
  | a :: b :: c :: r => simp only [List.getD_cons_zero, List.getD_cons_succ, lenS]; omega
theorem rowT_len (ahead : Nat → Str) (A : Nat → Nat) (hA : ∀ i, (ahead i).length ≤ A i) : ∀ (l : List Str) (i : Nat), (rowT ahead i l).length ≤ lenS l + 2 * l.length + ((List.range l.length).map fun k => A (i + k)).sum
  | [], i => by simp [rowT]
  | t :: r, i => by
    have ih := rowT_len ahead A hA r (i + 1)
    have h0 := hA i
    have e : ((List.range (t :: r).length).map fun k => A (i + k)).sum = A i + ((List.range r.length).map fun k => A (i + 1 + k)).sum := by
      rw [List.length_cons, List.range_succ_eq_map, List.map_cons, List.sum_cons, List.map_map]
      congr 2
      apply List.map_congr_left
      intro k _
      simp only [Function.comp]
      congr 1; omega
    rw [e]
    simp only [rowT, List.length_append, lenS, List.length_cons]
    split <;> simp only [List.length_cons, List.length_nil] <;> omega
end Go.Proofs.YtoelfmmfjebabaaDoor
