/- Layer 2: the plain law of quotes: the program's answer is the reference's. -/
import Derived.Test.YtoelfmmfjebabaaDoorTxF
namespace Go.Proofs.YtoelfmmfjebabaaDoor
open Go Go.Eng
open Int renaming reduceEq → Za, reduceToNat → Zm, reduceLE → Zn, reduceLT → Zo, reduceAdd → Zp, reduceSub → Zq, reduceNeg → Zr, reducePow → Zt, reduceNegSucc → Zv
open UInt8 renaming reduceOfNat → Zb
open List renaming mapM_cons → Zc, mapM_nil → Zd
open Nat renaming reduceAdd → Ze, reduceMul → Zf, reduceMod → Zg, reduceDiv → Zh, reduceEqDiff → Zi, reduceBEq → Zj, reduceLeDiff → Zk, reduceSub → Zl, reducePow → Zs, reduceLT → Zu
set_option linter.unusedSimpArgs false
set_option linter.unusedVariables false
set_option maxRecDepth 20000

theorem all_u8 {p : UInt8 → Prop} (h : ∀ n : Nat, n < 256 → p (UInt8.ofNat n)) (c : UInt8) : p c := by
  have := h c.toNat (u8_lt c)
  rwa [ofNat_toNat'] at this
theorem hx2_hex : ∀ c : UInt8, hx2 (hexL.getD (c.toNat / 16) 0) (hexL.getD (c.toNat % 16) 0) = c :=
  all_u8 (by decide +kernel)
theorem q1_cases (c : UInt8) : (q1 c = [c] ∧ c ≠ 92) ∨ (q1 c = [92, c] ∧ (c = 34 ∨ c = 92)) ∨ q1 c = [92, 120, hexL.getD (c.toNat / 16) 0, hexL.getD (c.toNat % 16) 0] := by
  unfold q1
  split
  · rename_i h
    refine .inl ⟨rfl, fun e => ?_⟩
    subst e; revert h; decide
  · split
    · rename_i h
      refine .inr (.inl ⟨rfl, ?_⟩)
      simp only [Bool.or_eq_true, beq_iff_eq] at h
      rcases h with h | h
      · exact .inl (UInt8.toNat_inj.mp (by show c.toNat = 34; omega))
      · exact .inr (UInt8.toNat_inj.mp (by show c.toNat = 92; omega))
    · exact .inr (.inr rfl)
theorem stepU_q1 (c : UInt8) (t : List UInt8) : stepU (q1 c ++ t) = (c, (q1 c).length) := by
  rcases q1_cases c with ⟨h, h2⟩ | ⟨h, h2⟩ | h
  · rw [h]
    show stepU (c :: t) = (c, 1)
    rw [stepU_cons, if_neg]
    simp only [Bool.and_eq_true, beq_iff_eq]
    intro hh
    exact h2 (UInt8.toNat_inj.mp (by show c.toNat = 92; omega))
  · rw [h]
    show stepU (92 :: c :: t) = (c, 2)
    rw [stepU_cons, if_pos (by simp; omega), if_neg]
    · rfl
    · simp only [Bool.and_eq_true, beq_iff_eq, List.getD_cons_zero]
      rintro ⟨h3, -⟩
      rcases h2 with rfl | rfl <;> revert h3 <;> decide
  · rw [h]
    show stepU (92 :: 120 :: hexL.getD (c.toNat / 16) 0 :: hexL.getD (c.toNat % 16) 0 :: t) = (c, 4)
    rw [stepU_cons, if_pos (by simp; omega), if_pos (by simp; omega)]
    show (hx2 (hexL.getD (c.toNat / 16) 0) (hexL.getD (c.toNat % 16) 0), 4) = _
    rw [hx2_hex]
theorem q1_ne (c : UInt8) : q1 c ≠ [] := by
  rcases q1_cases c with ⟨h, -⟩ | ⟨h, -⟩ | h <;> rw [h] <;> simp
theorem unqL_all : ∀ (o : List UInt8) (n : Nat), (o.flatMap q1).length ≤ n → unqL n (o.flatMap q1) = some o
  | [], n, _ => by cases n <;> rfl
  | c :: o, n, hn => by
    simp only [List.flatMap_cons] at hn ⊢
    obtain ⟨x, r, hx⟩ : ∃ x r, q1 c ++ o.flatMap q1 = x :: r := by
      cases h : q1 c ++ o.flatMap q1 with
      | nil => exact absurd (List.append_eq_nil_iff.mp h).1 (q1_ne c)
      | cons x r => exact ⟨x, r, rfl⟩
    have hlen : 1 ≤ (q1 c).length := by
      cases h : q1 c with
      | nil => exact absurd h (q1_ne c)
      | cons => simp
    obtain ⟨n, rfl⟩ : ∃ m, n = m + 1 := ⟨n - 1, by rw [List.length_append] at hn; omega⟩
    have hst := stepU_q1 c (o.flatMap q1)
    rw [hx] at hst ⊢
    rw [unqL, hst]
    simp only
    rw [← hx, List.take_left' rfl, List.drop_left' rfl, if_pos rfl, unqL_all o n (by rw [List.length_append] at hn; omega)]
    rfl
theorem unqL_sound : ∀ (n : Nat) (r o : List UInt8), unqL n r = some o → r = o.flatMap q1
  | n, [], o, h => by
    have : o = [] := by cases n <;> simp [unqL] at h <;> exact h
    subst this; rfl
  | 0, _ :: _, o, h => by simp [unqL] at h
  | n + 1, c :: r, o, h => by
    rw [unqL] at h
    split at h
    · rename_i hq
      simp only [Option.map_eq_some_iff] at h
      obtain ⟨o', h1, rfl⟩ := h
      have := unqL_sound n _ o' h1
      rw [List.flatMap_cons, hq, ← this, List.take_append_drop]
    · cases h
theorem unquote_quote (o : List UInt8) : unquote (quote o) = some o := by
  unfold unquote quote
  have e1 : (34 :: (o.flatMap q1 ++ [34])).length = (o.flatMap q1).length + 2 := by simp
  have e2 : (34 :: (o.flatMap q1 ++ [34])).getD ((o.flatMap q1).length + 2 - 1) 0 = 34 := by
    rw [show (o.flatMap q1).length + 2 - 1 = (o.flatMap q1).length + 1 by omega, List.getD_cons_succ, List.getD_eq_getElem?_getD]
    simp
  have e3 : ((34 :: (o.flatMap q1 ++ [34])).take ((o.flatMap q1).length + 2 - 1)).drop 1 = o.flatMap q1 := by
    rw [show (o.flatMap q1).length + 2 - 1 = (o.flatMap q1).length + 1 by omega, List.take_succ_cons, List.drop_succ_cons, List.drop_zero, List.take_left' rfl]
  rw [e1, e2, e3, if_neg]
  · exact unqL_all o _ (by omega)
  · simp only [Bool.or_eq_true, decide_eq_true_eq, bne_iff_ne, not_or]
    exact ⟨⟨by omega, by simp⟩, by simp⟩
theorem unquote_sound {s o : List UInt8} (h : unquote s = some o) : s = quote o := by
  unfold unquote at h
  split at h
  · cases h
  · rename_i hc
    have := unqL_sound _ _ _ h
    simp only [Bool.or_eq_true, decide_eq_true_eq, bne_iff_ne, not_or, Decidable.not_not] at hc
    obtain ⟨⟨h1, h2⟩, h3⟩ := hc
    unfold quote
    rw [← this]
    have a1 : s.getD 0 0 = 34 := UInt8.toNat_inj.mp (by show _ = 34; omega)
    have a2 : s.getD (s.length - 1) 0 = 34 := UInt8.toNat_inj.mp (by show _ = 34; omega)
    have hs : s = s.take (s.length - 1) ++ [s.getD (s.length - 1) 0] := by
      rw [← take_snocB (by omega), show s.length - 1 + 1 = s.length by omega, List.take_length]
    cases s with
    | nil => simp at h1
    | cons x r =>
      rw [List.getD_cons_zero] at a1
      subst a1
      rw [a2] at hs
      have hl : (34 :: r).length - 1 = r.length := by simp
      rw [hl] at hs ⊢
      cases r with
      | nil => simp at h1
      | cons y r' =>
        rw [List.length_cons, List.take_succ_cons] at hs ⊢
        rw [List.drop_succ_cons, List.drop_zero, ← List.cons_append]; exact hs
theorem hex_idx : ∀ k : Nat, k < 16 → hexL.idxOf (hexL.getD k 0) = k := by decide +kernel
theorem stepR_q1 (c : UInt8) (t : List UInt8) (ht : t ≠ []) : stepR (q1 c ++ t) = (c, (q1 c).length) := by
  have hl : 1 ≤ t.length := List.length_pos_iff.mpr ht
  unfold stepR
  rcases q1_cases c with ⟨h, h2⟩ | ⟨h, h2⟩ | h
  · have hne : ((c.toNat : Int) == 92) = false := by
      apply beq_eq_false_iff_ne.mpr
      intro hh
      exact h2 (UInt8.toNat_inj.mp (by show c.toNat = 92; omega))
    rw [h]
    simp only [List.cons_append, List.nil_append, List.getD_cons_zero, hne, Bool.false_and, Bool.false_eq_true, if_false]
    rfl
  · rw [h, if_pos]
    · rfl
    · rcases h2 with rfl | rfl <;> simp <;> omega
  · have hc := u8_lt c
    have i1 := hex_idx (c.toNat / 16) (by omega)
    have i2 := hex_idx (c.toNat % 16) (by omega)
    rw [h]
    have g0 : ([92, 120, hexL.getD (c.toNat / 16) 0, hexL.getD (c.toNat % 16) 0] ++ t).getD 0 0 = 92 := rfl
    have g1 : ([92, 120, hexL.getD (c.toNat / 16) 0, hexL.getD (c.toNat % 16) 0] ++ t).getD 1 0 = 120 := rfl
    have g2 : ([92, 120, hexL.getD (c.toNat / 16) 0, hexL.getD (c.toNat % 16) 0] ++ t).getD 2 0 = hexL.getD (c.toNat / 16) 0 := rfl
    have g3 : ([92, 120, hexL.getD (c.toNat / 16) 0, hexL.getD (c.toNat % 16) 0] ++ t).getD 3 0 = hexL.getD (c.toNat % 16) 0 := rfl
    rw [g0, g1, g2, g3, i1, i2, if_neg, if_pos]
    · have : 16 * (c.toNat / 16) + c.toNat % 16 = c.toNat := by omega
      rw [this, ofNat_toNat']; rfl
    · simp only [List.length_append, List.length_cons, List.length_nil, Bool.and_eq_true, decide_eq_true_eq]
      refine ⟨⟨⟨⟨rfl, by omega⟩, rfl⟩, by omega⟩, by omega⟩
    · simp
theorem decR_all : ∀ (o : List UInt8) (n : Nat), (o.flatMap q1).length + 1 ≤ n → decR n (o.flatMap q1 ++ [34]) = o
  | [], n, _ => by
    cases n with
    | zero => rfl
    | succ n => rw [decR, if_pos (by simp)]
  | c :: o, n, hn => by
    have hlen : 1 ≤ (q1 c).length := by
      cases h : q1 c with
      | nil => exact absurd h (q1_ne c)
      | cons => simp
    simp only [List.flatMap_cons, List.append_assoc, List.length_append] at hn ⊢
    obtain ⟨n, rfl⟩ : ∃ m, n = m + 1 := ⟨n - 1, by omega⟩
    rw [decR, if_neg (by simp only [List.length_append, List.length_cons]; omega), stepR_q1 c _ (by simp)]
    simp only
    rw [List.drop_left' rfl, decR_all o n (by omega)]
theorem unquote_ref (s : List UInt8) : unquote s = refU s := by
  unfold refU
  have key : ∀ o, s = quote o → decR s.length (s.drop 1) = o := fun o ho => by
    subst ho
    unfold quote
    rw [List.drop_succ_cons, List.drop_zero]
    exact decR_all o _ (by simp)
  split
  · rename_i h
    rw [← h, unquote_quote, h]
  · rename_i h
    cases hu : unquote s with
    | none => rfl
    | some o =>
      have hs := unquote_sound hu
      exact absurd (by rw [key o hs]; exact hs.symm) h
end Go.Proofs.YtoelfmmfjebabaaDoor
