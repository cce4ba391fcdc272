/- Layer 10: how long texts are; that every argument holds an expression. -/
import Derived.Test.YtoelfmmfjebabaaDoorPnH
import Derived.Test.YtoelfmmfjebabaaDoorRows
import Derived.Handed
import Derived.HandedShaped
import Derived.JoinedCond
namespace Go.Proofs.YtoelfmmfjebabaaDoor
open Go Go.Eng
open Int renaming reduceEq → Za, reduceToNat → Zm, reduceLE → Zn, reduceLT → Zo, reduceAdd → Zp, reduceSub → Zq, reduceNeg → Zr, reducePow → Zt, reduceNegSucc → Zv
open UInt8 renaming reduceOfNat → Zb
open List renaming mapM_cons → Zc, mapM_nil → Zd
open Nat renaming reduceAdd → Ze, reduceMul → Zf, reduceMod → Zg, reduceDiv → Zh, reduceEqDiff → Zi, reduceBEq → Zj, reduceLeDiff → Zk, reduceSub → Zl, reducePow → Zs, reduceLT → Zu
set_option linter.unusedSimpArgs false
set_option linter.unusedVariables false
set_option maxRecDepth 20000

theorem litT_len {v : LV} (hn : I64 v.n) : (litT v).length ≤ 21 + 4 * (v.tx.length + v.ty.length + v.id.length) := by
  have h1 := shows_len hn
  have h2 := quote_len v.tx
  have h3 := quote_len v.id
  unfold litT
  repeat' split
  all_goals (try unfold uidT cc); (try simp only [List.length_append, List.length_cons, List.length_nil]); omega
theorem own1_len (o : Int) (t : Str) : (own1 o t).length ≤ t.length + 2 := by
  unfold own1; split <;> simp
theorem signT_len (op : Int) : (signT op).length ≤ 4 := by
  unfold signT; repeat' split
  all_goals simp
theorem methT_len (op : Int) : (methT op).length ≤ 13 := by
  unfold methT; repeat' split
  all_goals simp
theorem sum_getD : ∀ (names : List Str) (n : Nat), ((List.range n).map fun k => 4 * (names.getD k []).length + 4).sum ≤ 4 * (names.map fun x => x.length + 1).sum + 4 * n
  | names, 0 => by simp
  | [], n + 1 => by
    have := sum_getD [] n
    rw [List.range_succ, List.map_append, List.sum_append]
    simp at this ⊢
    omega
  | x :: r, n + 1 => by
    have := sum_getD r n
    rw [List.range_succ_eq_map, List.map_cons, List.sum_cons, List.map_map]
    simp only [List.getD_cons_zero, List.map_cons, List.sum_cons]
    have e : ((List.range n).map ((fun k => 4 * ((x :: r).getD k []).length + 4) ∘ Nat.succ)) = (List.range n).map fun k => 4 * (r.getD k []).length + 4 := by
      apply List.map_congr_left; intro k _; simp
    rw [e]; omega
theorem nodeT_len (op : Int) {v : LV} (hn : I64 v.n) (nm : Str) (names : List Str) (os : List Int) (ks : List Str) :
    (nodeT op v nm names os ks).length ≤ lenS ks + 4 * (v.tx.length + v.ty.length + v.id.length + nm.length) + 4 * (names.map fun x => x.length + 1).sum + 6 * ks.length + 30 := by
  have h1 := litT_len hn
  have h2 := quote_len nm
  have h3 := get3_lenS ks
  have h4 := signT_len op
  have h5 := methT_len op
  have h6 := own1_len (os.getD 0 0) (ks.getD 0 [])
  have h7 := rowT_len (fun _ => []) (fun _ => 0) (fun _ => by simp) ks 0
  have h8 := rowT_len (fun i => quote (names.getD i []) ++ [58, 32]) (fun i => 4 * (names.getD i []).length + 4) (fun i => by have := quote_len (names.getD i []); simp only [List.length_append, List.length_cons, List.length_nil]; omega) ks 0
  have h9 := sum_getD names ks.length
  have h10 : ((List.range ks.length).map fun _ => 0).sum = 0 := by
    generalize List.range ks.length = L
    induction L with
    | nil => rfl
    | cons _ _ ih => simpa using ih
  rw [h10] at h7
  simp only [Nat.zero_add] at h8
  unfold nodeT
  by_cases c0 : op = 1
  · rw [if_pos c0]; (try simp only [List.length_append, List.length_cons, List.length_nil]); omega
  rw [if_neg c0]
  by_cases c1 : op = 2
  · rw [if_pos c1]; (try simp only [List.length_append, List.length_cons, List.length_nil]); omega
  rw [if_neg c1]
  by_cases c2 : op = 3
  · rw [if_pos c2]; (try simp only [List.length_append, List.length_cons, List.length_nil]); omega
  rw [if_neg c2]
  by_cases c3 : isTwo op = true
  · rw [if_pos c3]; (try simp only [List.length_append, List.length_cons, List.length_nil]); omega
  rw [if_neg c3]
  by_cases c4 : op = 6
  · rw [if_pos c4]; (try simp only [List.length_append, List.length_cons, List.length_nil]); omega
  rw [if_neg c4]
  by_cases c5 : op = 14
  · rw [if_pos c5]; (try simp only [List.length_append, List.length_cons, List.length_nil]); omega
  rw [if_neg c5]
  by_cases c6 : op = 7
  · rw [if_pos c6]; (try simp only [List.length_append, List.length_cons, List.length_nil]); omega
  rw [if_neg c6]
  by_cases c7 : op = 16
  · rw [if_pos c7]; (try simp only [List.length_append, List.length_cons, List.length_nil]); omega
  rw [if_neg c7]
  by_cases c8 : op = 17
  · rw [if_pos c8]; (try simp only [List.length_append, List.length_cons, List.length_nil]); omega
  rw [if_neg c8]
  by_cases c18 : op = 18
  · rw [if_pos c18]
    by_cases cn : nameB nm = true
    · rw [if_pos cn]; simp only [List.length_append, List.length_cons, List.length_nil]; omega
    · rw [if_neg cn]; simp only [List.length_append, List.length_cons, List.length_nil]; omega
  rw [if_neg c18]
  by_cases c19 : op = 19
  · rw [if_pos c19]; (try simp only [List.length_append, List.length_cons, List.length_nil]); omega
  rw [if_neg c19]
  by_cases c20 : op = 20
  · rw [if_pos c20]; (try simp only [List.length_append, List.length_cons, List.length_nil]); omega
  rw [if_neg c20]
  simp only [List.length_append, List.length_cons, List.length_nil]; omega
theorem lenS_le : ∀ {l : List Ex'}, (∀ (i : Nat) (t : Ex'), l[i]? = some t → (pt t).length + 6 ≤ 30 * wt t) → lenS (ptL l) + 6 * l.length ≤ 30 * wtL l
  | [], _ => by simp [ptL, lenS, wtL]
  | x :: l, h => by
    have h1 := h 0 x (by simp)
    have h2 := lenS_le (l := l) fun i t ht => h (i + 1) t (by simpa using ht)
    simp only [ptL, lenS, wtL, List.length_cons]; omega
theorem pt_len {F : Base} {cs : List Value} {e : Ex'} (h : RepX F cs e) : (pt e).length + 6 ≤ 30 * wt e := by
  induction h with
  | mk op v u1 u2 nm a1 c1 kids g1 vn names hu hop hk hn hl1 hc1 h1 r1 hN i1 =>
    have k1 := lenS_le i1
    have k2 := nodeT_len op hn nm names (kids.map Ex'.op) (ptL kids)
    rw [ptL_len] at k2
    rw [pt, wt]
    split
    · omega
    · simp; omega
/-! ### Opening -/
section
variable {H : Type} {enc : TypeId × Value → H}
theorem bulk_mem {d : DataW H} : ∀ {l : List (DataW H)}, d ∈ l → Rows.uptoBulk d ≤ Rows.uptoBulkAll l
  | x :: l, h => by
    simp only [Rows.uptoBulkAll]
    rcases List.mem_cons.1 h with rfl | h
    · omega
    · have := bulk_mem h
      omega
variable {w : World} {spare : Nat → Bool} {held : Bool}
theorem bulk_pos : ∀ d : DataW H, 1 ≤ Rows.uptoBulk d := by
  intro d
  cases d <;> (try (rename_i l; cases l)) <;> simp [Rows.uptoBulk]
theorem sum_le {α : Type} {f : α → Nat} : ∀ {l : List α} {E : List (DataW H)}, l.length = E.length → (∀ (i : Nat) (z : α) (y : DataW H), l[i]? = some z → E[i]? = some y → f z ≤ Rows.uptoBulk y) → (l.map f).sum ≤ Rows.uptoBulkAll E
  | [], [], _, _ => by simp [Rows.uptoBulkAll]
  | z :: l, y :: E, hl, h => by
    have h1 := h 0 z y (by simp) (by simp)
    have h2 := sum_le (l := l) (E := E) (by simpa using hl) fun i z y hz hy => h (i + 1) z y (by simpa using hz) (by simpa using hy)
    simp only [List.map_cons, List.sum_cons, Rows.uptoBulkAll]
    omega
theorem open_slice_w {P : Program} {α : Type} {R : List Value → α → Prop} {f : α → Nat} {t e n fuel : Nat} {cs : List Value} {x : DataW H × List MemPlace} (ht : P.underlying t = some (.slice e)) (hn : P.cellsOf e = n) (hpos : 0 < n)
    (h : DataW.trod enc P w 0 spare held fuel t cs = some x) (hR : ∀ m cs' y, m < fuel → DataW.trod enc P w 0 spare held m e cs' = some y → ∃ z : α, R cs' z ∧ f z ≤ Rows.uptoBulk y.1) :
    ∃ (a : Option Addr) (l : List α) (cap : Nat) (g : Nat → List Value), cs = [.slice a l.length cap] ∧ l.length ≤ maxLen ∧ l.length ≤ cap ∧ cap ≤ maxLen ∧ (∀ (i : Nat) (z : α), l[i]? = some z → Cl (fun b => w.heap[b]?) a n i (g i)) ∧ (∀ (i : Nat) (z : α), l[i]? = some z → R (g i) z) ∧ (l.map f).sum + 1 ≤ Rows.uptoBulk x.1 := by
  rcases DataW.trod_slice ht h with ⟨hc, hx⟩ | ⟨a, len, cap, elems, rest, m, hf, hcs, hxe, _, hl, hm, hlen, hel, _⟩
  · exact ⟨none, [], 0, fun _ => [], hc, Nat.zero_le _, Nat.le_refl _, Nat.zero_le _, fun i z h => by simp at h, fun i z h => by simp at h, by rw [hx]; simp [Rows.uptoBulk]⟩
  · rw [hn] at hel
    have hb : ∀ i, i < len → ∃ z : List Value × α, w.cells? 0 (a.add (i * n)) n = some z.1 ∧ R z.1 z.2 ∧ ∀ y, (elems.map (·.1))[i]? = some y → f z.2 ≤ Rows.uptoBulk y := fun i hi => by
      have h1 := hel i hi
      rw [List.getElem?_eq_getElem (by omega)] at h1
      cases hc : w.cells? 0 (a.add (i * n)) n with
      | none => rw [hc] at h1; cases h1
      | some cs' =>
        rw [hc] at h1
        obtain ⟨z, hz, hz2⟩ := hR m cs' _ (by omega) h1
        refine ⟨(cs', z), rfl, hz, fun y hy => ?_⟩
        rw [List.getElem?_map, List.getElem?_eq_getElem (by omega)] at hy
        simp only [Option.map_some, Option.some.injEq] at hy
        subst hy
        exact hz2
    obtain ⟨l, hl1, hl2⟩ := choose_list len hb
    have hsp : 0 < len → a.spot = none := fun h0 => by
      obtain ⟨z, hz, _⟩ := hb 0 h0
      rw [Nat.zero_mul] at hz
      exact cells_spot hpos hz
    have hsum : ((l.map (·.2)).map f).sum ≤ Rows.uptoBulkAll (elems.map (·.1)) := by
      refine sum_le (by simp; omega) fun i z y hz hy => ?_
      rw [List.getElem?_map] at hz
      cases hq : l[i]? with
      | none => rw [hq] at hz; cases hz
      | some q =>
        rw [hq] at hz
        simp only [Option.map_some, Option.some.injEq] at hz
        subst hz
        exact (hl2 i q hq).2.2 y hy
    refine ⟨some a, l.map (·.2), cap, fun i => ((l[i]?).map (·.1)).getD [], by rw [List.length_map, hl1]; exact hcs, by rw [List.length_map]; omega, by rw [List.length_map]; omega, hm, fun i z hz => ?_, fun i z hz => ?_, by rw [hxe]; simp only [Rows.uptoBulk]; omega⟩
    all_goals
      rw [List.getElem?_map] at hz
      cases hy : l[i]? with
      | none => rw [hy] at hz; cases hz
      | some y =>
        rw [hy] at hz
        simp only [Option.map_some, Option.some.injEq] at hz
        subst hz
        have hi : i < len := by rw [← hl1]; exact (List.getElem?_eq_some_iff.mp hy).1
        obtain ⟨h1, h2, _⟩ := hl2 i y hy
        simp only [hy, Option.map_some, Option.getD_some]
        first | exact cells_Cl hpos (hsp (by omega)) h1 | exact h2
end
end Go.Proofs.YtoelfmmfjebabaaDoor
