/- Joined. -/
import Derived.Test.YtnenbihkcjgddaaDoorJb
import Derived.Test.YtnenbihkcjgddaaDoorJe
set_option linter.unusedSectionVars false
namespace Go.Proofs.YtnenbihkcjgddaaDoor
open Go Go.Eng
set_option maxHeartbeats 1000000
set_option linter.unusedSimpArgs false
set_option linter.unusedVariables false
set_option maxRecDepth 20000
def shiftW (k : Nat) : Except (Int × Nat) (List (Wd × Nat)) → Except (Int × Nat) (List (Wd × Nat))
 | .error (e, a) => .error (e, a + k)
 | .ok l => .ok (l.map fun x => (x.1, x.2 + k))
theorem w1_shift (k : Nat) : ∀ (n a : Nat) (s : List UInt8), w1 n (a + k) s = shiftW k (w1 n a s)
 | 0, _, _ => rfl
 | n + 1, a, s => by
  rw [w1, w1]
  split
  ·rfl
  ·split
   ·rfl
   ·rename_i w m _
    rw [show a + k + m + blankN (s.drop m) = a + m + blankN (s.drop m) + k by omega, w1_shift k n]
    cases w1 n (a + m + blankN (s.drop m)) (s.drop (m + blankN (s.drop m))) with
    | error x => rfl
    | ok l => rfl
theorem w1_fuel : ∀ (n m a : Nat) (s : List UInt8), s.length < n → n ≤ m → w1 m a s = w1 n a s
 | 0, _, _, _, h, _ => absurd h (by omega)
 | n + 1, 0, _, _, _, h => absurd h (by omega)
 | n + 1, m + 1, a, s, h, hm => by
  rw [w1, w1]
  split
  ·rfl
  ·split
   ·rfl
   ·rename_i hs _ w k hk
    have h0 := tok_len hk
    have h1 := tok_le hs hk
    rw [w1_fuel n m _ _ (by rw [List.length_drop]; omega) (by omega)]
theorem words_fuel (s : List UInt8) (n : Nat) (h : s.length < n) : words s = w1 n (blankN s) (s.drop (blankN s)) := by
 unfold words
 rcases Nat.lt_or_ge n (s.length + 1) with h1 | h1
 ·omega
 ·rw [w1_fuel (s.length + 1) n _ _ (by rw [List.length_drop]; omega) h1]
theorem blankN_all {A t : List UInt8} (h : A.all isB = true) : blankN (A ++ t) = A.length + blankN t := by
 induction A with
 | nil => simp
 | cons c A ih =>
  rw [List.all_cons, Bool.and_eq_true] at h
  rw [List.cons_append, blankN_cons, if_pos h.1, ih h.2, List.length_cons]; omega
theorem words_sp {A t : List UInt8} (h : A.all isB = true) : words (A ++ t) = shiftW A.length (words t) := by
 have hb : blankN (A ++ t) = A.length + blankN t := blankN_all h
 rw [words_fuel t ((A ++ t).length + 1) (by simp; omega), words, hb, ← w1_shift, Nat.add_comm (blankN t)]
 congr 1
 rw [← List.drop_drop, List.drop_left]
def Lexs (P : Str) (ks : List Wd) (ok : UInt8 → Bool) : Prop :=
 ∀ t l', (∀ c r, t = c :: r → ok c = true) → words t = .ok l' → ∃ l, words (P ++ t) = .ok (l ++ l'.map fun x => (x.1, x.2 + P.length)) ∧ l.map Prod.fst = ks
theorem Lexs.app {P Q : Str} {kp kq : List Wd} {okP okQ : UInt8 → Bool} (hP : Lexs P kp okP) (hQ : Lexs Q kq okQ) (hne : Q ≠ []) (h : ∀ c r, Q = c :: r → okP c = true) : Lexs (P ++ Q) (kp ++ kq) okQ := fun t l' ht hw => by
 obtain ⟨lq, h1, h2⟩ := hQ t l' ht hw
 obtain ⟨c, r, rfl⟩ := List.exists_cons_of_ne_nil hne
 obtain ⟨lp, h3, h4⟩ := hP (c :: r ++ t) _ (fun d u e => by injection e with e1 e2; subst e1; exact h _ r rfl) h1
 refine ⟨lp ++ lq.map fun x => (x.1, x.2 + P.length), ?_, ?_⟩
 ·rw [List.append_assoc, h3, List.map_append, List.map_map, List.append_assoc]
  congr 3
  apply List.map_congr_left
  intro x _
  simp only [Function.comp, List.length_append]
  congr 1; omega
 ·rw [List.map_append, h4, List.map_map, ← h2]; rfl
theorem Lexs.mono {P : Str} {ks : List Wd} {ok ok' : UInt8 → Bool} (h : Lexs P ks ok) (hk : ∀ c, ok' c = true → ok c = true) : Lexs P ks ok' := fun t l' ht hw => h t l' (fun c r e => hk c (ht c r e)) hw
abbrev any8 : UInt8 → Bool := fun _ => true
theorem Lexs.app' {P Q : Str} {kp kq : List Wd} {okQ : UInt8 → Bool} (hP : Lexs P kp any8) (hQ : Lexs Q kq okQ) : Lexs (P ++ Q) (kp ++ kq) okQ := by
 by_cases hne : Q = []
 ·subst hne
  intro t l' ht hw
  obtain ⟨lq, h1, h2⟩ := hQ t l' ht hw
  obtain ⟨lp, h3, h4⟩ := hP t l' (fun _ _ _ => rfl) hw
  have : lq = [] := by
   rw [List.nil_append, hw] at h1
   injection h1 with h1
   have := congrArg List.length h1
   rw [List.length_append, List.length_map] at this
   exact List.eq_nil_of_length_eq_zero (by omega)
  subst this
  refine ⟨lp, by simpa using h3, ?_⟩
  rw [← h2, h4]; simp
 ·exact hP.app hQ hne fun _ _ _ => rfl
theorem Lexs.sp {A : Str} (h : A.all isB = true) : Lexs A [] any8 := fun t l' _ hw => ⟨[], by rw [words_sp h, hw]; rfl, rfl⟩
theorem Lexs.nil : Lexs [] [] any8 := Lexs.sp rfl
theorem Lexs.words {P : Str} {ks : List Wd} {ok : UInt8 → Bool} (h : Lexs P ks ok) : ∃ l, Go.Proofs.YtnenbihkcjgddaaDoor.words P = .ok l ∧ l.map Prod.fst = ks ++ [(0, [], 0)] := by
 obtain ⟨l, h1, h2⟩ := h [] [((0, [], 0), 0)] (fun c r e => by cases e) rfl
 rw [List.append_nil] at h1
 exact ⟨_, h1, by rw [List.map_append, h2]; rfl⟩
theorem Lexs.tok {P : Str} {w : Wd} {ok : UInt8 → Bool} {c : UInt8} {r : Str} (hP : P = c :: r) (hb : isB c = false) (hc : c ≠ 47) (ht : ∀ t, (∀ c r, t = c :: r → ok c = true) → Go.Proofs.YtnenbihkcjgddaaDoor.tok (P ++ t) = .ok (w, P.length)) : Lexs P [w] ok := fun t l' hk hw => by
 have hb0 : blankN (P ++ t) = 0 := by
  rw [hP, List.cons_append, blankN_cons, if_neg (by simp [hb]), if_neg]
  show ¬ List.isPrefixOf [47, 47] (c :: (r ++ t)) = true
  simp only [List.isPrefixOf, Bool.and_eq_true, beq_iff_eq]
  exact fun h => hc h.1.symm
 refine ⟨[(w, 0)], ?_, rfl⟩
 have hne : P ++ t ≠ [] := by rw [hP]; simp
 have hw2 := words_fuel t (P ++ t).length (by rw [hP, List.length_append, List.length_cons]; omega)
 rw [hw] at hw2
 unfold Go.Proofs.YtnenbihkcjgddaaDoor.words
 rw [hb0, List.drop_zero, w1, if_neg hne, ht t hk]
 simp only
 rw [List.drop_left' rfl, ← List.drop_drop, List.drop_left' rfl, show 0 + P.length + blankN t = blankN t + P.length by omega, w1_shift, ← hw2]
 rfl
theorem takeWhile_stop {p : UInt8 → Bool} {P t : Str} (h : P.all p = true) (ht : ∀ c r, t = c :: r → p c = false) : (P ++ t).takeWhile p = P := by
 induction P with
 | nil =>
  cases t with
  | nil => rfl
  | cons c r => rw [List.nil_append, List.takeWhile_cons, ht c r rfl]; rfl
 | cons c r ih =>
  rw [List.all_cons, Bool.and_eq_true] at h
  rw [List.cons_append, List.takeWhile_cons, h.1, if_pos rfl, ih h.2]
theorem nameX_app {P t : Str} (h : nameB P = true) (ht : ∀ c r, t = c :: r → isLD c = false) : nameX (P ++ t) = P := by
 cases P with
 | nil => cases h
 | cons c r =>
  rw [nameB, Bool.and_eq_true] at h
  rw [List.cons_append, nameX, if_pos h.1, takeWhile_stop h.2 ht]
theorem isL_sp {c : UInt8} (h : isL c = true) : isB c = false ∧ c ≠ 47 := by
 have : ∀ c : UInt8, isL c = true → isB c = false ∧ c ≠ 47 := by apply all_u8; decide +kernel
 exact this c h
theorem tok_of {s : Str} {w : Wd} {m : Nat} (h : oneX s = (w, m, 0)) (hm : m ≠ 0) : tok s = .ok (w, m) := by unfold tok; rw [h]; simp [hm]
theorem Lexs.name {P : Str} (h : nameB P = true) : Lexs P [(1, P, 0)] fun c => !isLD c := by
 obtain ⟨c, r, rfl⟩ : ∃ c r, P = c :: r := by
  cases P with
  | nil => cases h
  | cons c r => exact ⟨c, r, rfl⟩
 have hc : isL c = true := by rw [nameB, Bool.and_eq_true] at h; exact h.1
 obtain ⟨k1, k2⟩ := isL_sp hc
 refine .tok rfl k1 k2 fun t ht => ?_
 have hn := nameX_app (t := t) h fun c r e => by have := ht c r e; simpa using this
 refine tok_of ?_ (by simp)
 unfold oneX
 rw [show ((c :: r) ++ t).getD 0 0 = c from rfl, if_pos hc, hn]
theorem Lexs.slot {P : Str} (h : nameB P = true) : Lexs (63 :: P) [(4, P, 0)] fun c => !isLD c := by
 refine .tok rfl (by decide) (by decide) fun t ht => ?_
 have hn := nameX_app (t := t) h fun c r e => by have := ht c r e; simpa using this
 have hne : P ≠ [] := by rintro rfl; cases h
 refine tok_of ?_ (by simp)
 have f1 : ¬ isL 63 = true := by decide
 have f2 : ¬ isD 63 = true := by decide
 have f3 : ¬ (63 : UInt8) = 34 := by decide
 unfold oneX
 rw [show ((63 :: P) ++ t).getD 0 0 = 63 from rfl, if_neg f1, if_neg f2, if_neg f3, if_pos rfl, show ((63 :: P) ++ t).drop 1 = P ++ t from rfl, hn, if_neg hne]
 rfl
theorem clo_q1 (c : UInt8) (r : List UInt8) : clo false (q1 c ++ r) = (clo false r).map (· + (q1 c).length) := by
 have key : ∀ c : UInt8, isP c = true → c ≠ 34 ∧ c ≠ 92 := by apply all_u8; decide +kernel
 have hex : ∀ n : Nat, n < 16 → hexL.getD n 0 ≠ 34 ∧ hexL.getD n 0 ≠ 92 := by decide
 unfold q1
 by_cases h : isP c = true
 ·obtain ⟨h1, h2⟩ := key c h
  rw [if_pos h, List.cons_append, List.nil_append, clo, if_neg (by simp [h1]), show (c == 92) = false by simpa using h2]
  rfl
 ·rw [if_neg h]
  by_cases h2 : ((c.toNat : Int) == 34 || (c.toNat : Int) == 92) = true
  ·rw [if_pos h2]
   simp only [List.cons_append, List.nil_append]
   rw [clo, if_neg (by decide), show ((92 : UInt8) == 92 && !false) = true from rfl, clo_skip, Option.map_map]
   rfl
  ·rw [if_neg h2]
   obtain ⟨a1, a2⟩ := hex (c.toNat / 16) (by have := c.toNat_lt; omega)
   obtain ⟨b1, b2⟩ := hex (c.toNat % 16) (by omega)
   generalize hexL.getD (c.toNat / 16) 0 = x at *
   generalize hexL.getD (c.toNat % 16) 0 = y at *
   have x1 : (x == 34) = false := by simpa using a1
   have x2 : (x == 92) = false := by simpa using a2
   have y1 : (y == 34) = false := by simpa using b1
   have y2 : (y == 92) = false := by simpa using b2
   simp only [List.cons_append, List.nil_append]
   rw [clo, if_neg (by decide), show ((92 : UInt8) == 92 && !false) = true from rfl, clo_skip, clo, x1, x2, clo, y1, y2]
   simp only [Bool.false_and, Bool.false_eq_true, if_false, Option.map_map]
   rfl
theorem clo_flat (s t : List UInt8) : clo false (s.flatMap q1 ++ 34 :: t) = some ((s.flatMap q1).length + 1) := by
 induction s with
 | nil => rw [List.flatMap_nil, List.nil_append, clo, if_pos (by decide)]; rfl
 | cons c s ih => rw [List.flatMap_cons, List.append_assoc, clo_q1, ih, List.length_append]; simp; omega
theorem Lexs.quoted (s : Str) : Lexs (quote s) [(3, s, 0)] any8 := by
 refine .tok (c := 34) (r := s.flatMap q1 ++ [34]) rfl (by decide) (by decide) fun t _ => ?_
 have hq : qX (quote s ++ t) = (s, (quote s).length) := by
  unfold qX
  have e1 : (quote s ++ t).drop 1 = s.flatMap q1 ++ 34 :: t := by simp [quote]
  have e2 : (quote s ++ t).take ((s.flatMap q1).length + 1 + 1) = quote s := List.take_left' (by simp [quote])
  rw [e1, clo_flat]
  simp only
  rw [e2, unquote_quote]
  simp [quote]
 have hl : (quote s).length ≠ 0 := by simp [quote]
 refine tok_of ?_ hl
 have f1 : ¬ isL 34 = true := by decide
 have f2 : ¬ isD 34 = true := by decide
 unfold oneX
 rw [show (quote s ++ t).getD 0 0 = 34 from rfl, if_neg f1, if_neg f2, if_pos rfl, hq]
theorem tok_mark {c : UInt8} {s : Str} (h1 : isL c = false) (h2 : isD c = false) (h3 : c ≠ 34) (h4 : c ≠ 63) (hm : mX (c :: s) ≠ []) : tok (c :: s) = .ok ((5, mX (c :: s), 0), (mX (c :: s)).length) := by
 have hl : (mX (c :: s)).length ≠ 0 := fun h => hm (List.eq_nil_of_length_eq_zero h)
 refine tok_of ?_ hl
 have f1 : ¬ isL c = true := by simp [h1]
 have f2 : ¬ isD c = true := by simp [h2]
 unfold oneX
 rw [show (c :: s).getD 0 0 = c from rfl, if_neg f1, if_neg f2, if_neg h3, if_neg h4]
 by_cases hc : c = 64
 ·have e : mX (c :: s) = [64] := if_pos hc
  rw [if_pos hc, e]; rfl
 ·have e : mX (c :: s) = markX (c :: s) := if_neg hc
  rw [e] at hm
  rw [if_neg hc, if_neg hm, e]
theorem Lexs.mark1 {c : UInt8} (hc : onesR.contains c = true) : Lexs [c] [(5, [c], 0)] fun d => !twosL.contains [c, d] := by
 have key : ∀ c : UInt8, onesR.contains c = true → isB c = false ∧ c ≠ 47 ∧ isL c = false ∧ isD c = false ∧ c ≠ 34 ∧ c ≠ 63 := by apply all_u8; decide +kernel
 obtain ⟨k1, k2, k3, k4, k5, k6⟩ := key c hc
 refine .tok rfl k1 k2 fun t ht => ?_
 have hm : mX (c :: t) = [c] := by
  rw [mX_cons, if_neg, if_pos hc]
  cases t with
  | nil => intro h; revert h; show ¬ twosL.contains [c] = true; simp [twosL]
  | cons d r => have := ht d r rfl; simpa using this
 rw [List.singleton_append, tok_mark k3 k4 k5 k6 (by rw [hm]; simp), hm]
end Go.Proofs.YtnenbihkcjgddaaDoor
namespace Go.Proofs.YtnenbihkcjgddaaDoor
open Go Go.Eng
set_option maxHeartbeats 1000000
set_option linter.unusedSimpArgs false
set_option linter.unusedVariables false
set_option maxRecDepth 20000
def At (ws : Ws) (s : St) (K : List Wd) : Prop := s.e = 0 ∧ ∀ (j : Nat) (w : Wd), K[j]? = some w → (wdAt ws (s.p + j)).1 = w
section
variable {ws : Ws} {s : St} {K : List Wd} {w : Wd}
theorem At.hd (h : At ws s (w :: K)) : (wdAt ws s.p).1 = w := by have := h.2 0 w rfl; rwa [show s.p + ((0 : Nat) : Int) = s.p by omega] at this
theorem At.adv (h : At ws s (w :: K)) : At ws (adv s) K := ⟨h.1, fun j v hj => by
 have := h.2 (j + 1) v (by simpa using hj)
 rwa [show s.p + ((j + 1 : Nat) : Int) = (Go.Proofs.YtnenbihkcjgddaaDoor.adv s).p + (j : Int) by show s.p + ((j + 1 : Nat) : Int) = s.p + 1 + j; omega] at this⟩
theorem At.is (h : At ws s (w :: K)) (t : Str) : isS ws s t = (((w.1 : Int) == 5 || (w.1 : Int) == 1) && w.2.1 == t) := by
 unfold isS wk wtx
 rw [h.1, h.hd]
 rfl
theorem At.wk (h : At ws s (w :: K)) : wk ws s = w.1 := by unfold Go.Proofs.YtnenbihkcjgddaaDoor.wk; rw [h.hd]
theorem At.wtx (h : At ws s (w :: K)) : wtx ws s = w.2.1 := by unfold Go.Proofs.YtnenbihkcjgddaaDoor.wtx; rw [h.hd]
theorem At.wn (h : At ws s (w :: K)) : wn ws s = w.2.2 := by unfold Go.Proofs.YtnenbihkcjgddaaDoor.wn; rw [h.hd]
theorem At.must {k : Nat} {t : Str} {n : Int} (h : At ws s ((k, t, n) :: K)) (hk : k = 5 ∨ k = 1) : mustS ws s t = Go.Proofs.YtnenbihkcjgddaaDoor.adv s := by
 unfold mustS
 rw [h.is, if_pos]
 rcases hk with rfl | rfl <;> simp
theorem At.take {k : Nat} {t : Str} {n : Int} {k' : Int} (h : At ws s ((k, t, n) :: K)) (hk : k' = k) : takeS ws s k' = (t, Go.Proofs.YtnenbihkcjgddaaDoor.adv s) := by
 unfold takeS
 rw [if_pos ⟨h.1, by rw [h.wk, hk]⟩, h.wtx]
theorem At.of {l : Ws} (hl : l.map Prod.fst = K) (d : Int) : At l ⟨0, d, 0, 0⟩ K := ⟨rfl, fun j w hj => by
 subst hl
 rw [List.getElem?_map] at hj
 obtain ⟨x, hx, rfl⟩ := Option.map_eq_some_iff.1 hj
 have hlt := (List.getElem?_eq_some_iff.1 hx).1
 show (wdAt l (0 + (j : Int))).1 = x.1
 rw [Int.zero_add, wdAt_in hlt, List.getD_eq_getElem?_getD, hx]; rfl⟩
end
abbrev mk (t : Str) : Wd := (5, t, 0)
abbrev nm (t : Str) : Wd := (1, t, 0)
theorem scope_bare {ws : Ws} {s : St} {K : List Wd} {t u : Str} (h : At ws s (nm t :: mk u :: K)) (h1 : (u == [61, 61]) = false) (h2 : (u == [105, 110]) = false) (h3 : (u == [105, 115]) = false) : scopeP ws s t = (sc0, adv s) := by
 unfold scopeP
 dsimp only
 rw [h.must (.inr rfl)]
 have ha := h.adv
 rw [ha.is, ha.is, ha.is, h1, h2, h3]
 rfl
theorem action_bare {ws : Ws} {s : St} {K : List Wd} {u : Str} (h : At ws s (nm actN :: mk u :: K)) (h1 : (u == [61, 61]) = false) (h2 : (u == [105, 110]) = false) : actionP ws s = (sc0, adv s) := by
 unfold actionP
 dsimp only
 rw [h.must (.inr rfl)]
 have ha := h.adv
 rw [ha.is, ha.is, h1, h2]
 rfl
def bareK : List Wd := [nm permT, mk [40], nm prN, mk [44], nm actN, mk [44], nm reN, mk [41], mk [59]]
def idK (t : Str) : List Wd := [mk [64], nm [105, 100], mk [40], (3, t, 0), mk [41]]
def advn : Nat → St → St
 | 0, s => s
 | n + 1, s => advn n (adv s)
theorem bare_go {ws : Ws} {s : St} {K : List Wd} (id : Str) (h : At ws s (bareK ++ K)) : permB ws id s = (⟨id, true, sc0, sc0, sc0, []⟩, advn 9 s) ∧ At ws (advn 9 s) K := by
 have a0 : At ws s (nm permT :: mk [40] :: nm prN :: mk [44] :: nm actN :: mk [44] :: nm reN :: mk [41] :: mk [59] :: K) := h
 have a1 := a0.adv; have a2 := a1.adv; have a3 := a2.adv; have a4 := a3.adv; have a5 := a4.adv; have a6 := a5.adv; have a7 := a6.adv; have a8 := a7.adv; have a9 := a8.adv
 refine ⟨?_, a9⟩
 unfold permB bodyP
 rw [a0.is, if_pos (by decide)]
 dsimp only
 rw [a1.must (.inl rfl), scope_bare a2 (by decide) (by decide) (by decide)]
 dsimp only
 rw [a3.must (.inl rfl), action_bare a4 (by decide) (by decide)]
 dsimp only
 rw [a5.must (.inl rfl), scope_bare a6 (by decide) (by decide) (by decide)]
 dsimp only
 rw [a7.must (.inl rfl), condsF, if_neg (by have := a8.1; simpa using this), a8.is, a8.is, if_neg (by decide), if_neg (by decide), a8.must (.inl rfl)]
 rfl
theorem id_go {ws : Ws} {s : St} {K : List Wd} (t : Str) (n : Int) (h : At ws s (idK t ++ K)) : policyP ws n s = permB ws t (advn 5 s) ∧ At ws (advn 5 s) K := by
 have a0 : At ws s (mk [64] :: nm [105, 100] :: mk [40] :: (3, t, 0) :: mk [41] :: K) := h
 have a1 := a0.adv; have a2 := a1.adv; have a3 := a2.adv; have a4 := a3.adv; have a5 := a4.adv
 refine ⟨?_, a5⟩
 rw [policyP_eq, a0.is, if_pos (by decide)]
 unfold quotP
 rw [a1.must (.inr rfl), a2.must (.inl rfl), a3.take (k' := 3) rfl]
 dsimp only
 rw [a4.must (.inl rfl)]
 rfl
theorem noid_go {ws : Ws} {s : St} {K : List Wd} {w : Wd} (n : Int) (h : At ws s (w :: K)) (hw : (w.2.1 == [64]) = false) : policyP ws n s = permB ws ([112, 111, 108, 105, 99, 121] ++ shows n) s := by
 rw [policyP_eq, h.is, hw, Bool.and_false, if_neg (by simp)]
def idTab : List Str := [[], [97], [98], [112, 111, 108, 105, 99, 121, 48], [112, 111, 108, 105, 99, 121, 51], [99]]
def bareT : Str := [112, 101, 114, 109, 105, 116, 40, 112, 114, 105, 110, 99, 105, 112, 97, 108, 44, 32, 97, 99, 116, 105, 111, 110, 44, 32, 114, 101, 115, 111, 117, 114, 99, 101, 41, 59]
def idT (t : Str) : Str := [64, 105, 100, 40, 34] ++ t ++ [34, 41, 32]
def pieT (t : Str) : Str := (if t = [] then [] else idT t) ++ bareT
def pieK (t : Str) : List Wd := (if t = [] then [] else idK t) ++ bareK
def pieN (i : Nat) (t : Str) : Str := if t = [] then [112, 111, 108, 105, 99, 121] ++ shows i else t
theorem bare_lexs : Lexs bareT bareK any8 := by
 have m : ∀ c, onesR.contains c = true → (∀ d, twosL.contains [c, d] = false) → Lexs [c] [mk [c]] any8 := fun c h h2 => (Lexs.mark1 h).mono fun d _ => by rw [h2]; rfl
 have two : ∀ c : UInt8, c = 40 ∨ c = 41 ∨ c = 44 ∨ c = 59 → ∀ d : UInt8, twosL.contains [c, d] = false := by
  rintro c (rfl | rfl | rfl | rfl) d <;> simp [twosL]
 have h40 := m 40 (by decide) (two 40 (by simp))
 have h41 := m 41 (by decide) (two 41 (by simp))
 have h44 := m 44 (by decide) (two 44 (by simp))
 have h59 := m 59 (by decide) (two 59 (by simp))
 have sp : Lexs [32] [] any8 := Lexs.sp (by decide)
 have e1 : Lexs ([112, 101, 114, 109, 105, 116] ++ [40]) _ any8 := (Lexs.name (by decide)).app h40 (by simp) (fun c r e => by injection e with e; subst e; decide)
 have e2 : Lexs ([112, 114, 105, 110, 99, 105, 112, 97, 108] ++ [44]) _ any8 := (Lexs.name (by decide)).app h44 (by simp) (fun c r e => by injection e with e; subst e; decide)
 have e3 : Lexs ([97, 99, 116, 105, 111, 110] ++ [44]) _ any8 := (Lexs.name (by decide)).app h44 (by simp) (fun c r e => by injection e with e; subst e; decide)
 have e4 : Lexs ([114, 101, 115, 111, 117, 114, 99, 101] ++ [41]) _ any8 := (Lexs.name (by decide)).app h41 (by simp) (fun c r e => by injection e with e; subst e; decide)
 exact e1.app' (e2.app' (sp.app' (e3.app' (sp.app' (e4.app' h59)))))
theorem pie_lexs {t : Str} (ht : quote t = [34] ++ t ++ [34]) : Lexs (pieT t) (pieK t) any8 := by
 unfold pieT pieK
 by_cases h : t = []
 ·rw [if_pos h, if_pos h]; exact bare_lexs
 ·rw [if_neg h, if_neg h]
  have m : ∀ c, onesR.contains c = true → (∀ d, twosL.contains [c, d] = false) → Lexs [c] [mk [c]] any8 := fun c h h2 => (Lexs.mark1 h).mono fun d _ => by rw [h2]; rfl
  have two : ∀ c : UInt8, c = 40 ∨ c = 41 ∨ c = 64 → ∀ d : UInt8, twosL.contains [c, d] = false := by
   rintro c (rfl | rfl | rfl) d <;> simp [twosL]
  have h40 := m 40 (by decide) (two 40 (by simp))
  have h41 := m 41 (by decide) (two 41 (by simp))
  have h64 := m 64 (by decide) (two 64 (by simp))
  have e1 : Lexs ([105, 100] ++ [40]) _ any8 := (Lexs.name (by decide)).app h40 (by simp) (fun c r e => by injection e with e; subst e; decide)
  have hq := Lexs.quoted t
  rw [ht] at hq
  have hi : Lexs (idT t) (idK t) any8 := by
   have := h64.app' (e1.app' (hq.app' (h41.app' (Lexs.sp (A := [32]) (by decide)))))
   unfold idT idK
   simpa using this
  exact hi.app' bare_lexs
theorem pies_lexs : ∀ (l : List Str), (∀ t ∈ l, quote t = [34] ++ t ++ [34]) → Lexs (l.flatMap pieT) (l.flatMap pieK) any8
 | [], _ => Lexs.nil
 | t :: l, h => by
  rw [List.flatMap_cons, List.flatMap_cons]
  exact (pie_lexs (h t List.mem_cons_self)).app' (pies_lexs l fun u hu => h u (List.mem_cons_of_mem _ hu))
def barePol (id : Str) : Pol := ⟨id, true, sc0, sc0, sc0, []⟩
theorem pie_go {ws : Ws} {s : St} {K : List Wd} (t : Str) (n : Nat) (h : At ws s (pieK t ++ K)) : ∃ s', policyP ws n s = (barePol (pieN n t), s') ∧ At ws s' K := by
 unfold pieK at h
 unfold pieN
 by_cases ht : t = []
 ·rw [if_pos ht, List.nil_append] at h
  rw [if_pos ht, noid_go (n := (n : Int)) (w := nm permT) (K := _) h (by decide)]
  obtain ⟨h1, h2⟩ := bare_go ([112, 111, 108, 105, 99, 121] ++ shows n) h
  exact ⟨_, h1, h2⟩
 ·rw [if_neg ht, List.append_assoc] at h
  rw [if_neg ht]
  obtain ⟨h1, h2⟩ := id_go t n h
  obtain ⟨h3, h4⟩ := bare_go t h2
  exact ⟨_, h1.trans h3, h4⟩
def piesN : Nat → List Str → List Str
 | _, [] => []
 | i, t :: l => pieN i t :: piesN (i + 1) l
theorem pieK_ne (t : Str) : ∃ w K, pieK t = w :: K ∧ (w.1 : Int) ≠ 0 := by
 unfold pieK
 by_cases h : t = []
 ·rw [if_pos h]; exact ⟨_, _, rfl, by decide⟩
 ·rw [if_neg h]; exact ⟨_, _, rfl, by decide⟩
theorem pies_go {ws : Ws} : ∀ (ts : List Str) (n : Nat) (l : List Pol) (s : St), ts.length < n → At ws s (ts.flatMap pieK ++ [(0, [], 0)]) → ∃ s', s'.e = 0 ∧ polsF ws n l s = (l ++ (piesN l.length ts).map barePol, s')
 | [], n + 1, l, s, _, h => by
  refine ⟨s, h.1, ?_⟩
  have h : At ws s ((0, [], 0) :: []) := h
  rw [polsF, if_pos (by rw [h.wk]; rfl)]
  simp [piesN]
 | t :: ts, n + 1, l, s, hn, h => by
  rw [List.flatMap_cons, List.append_assoc] at h
  obtain ⟨w, K, e, hw⟩ := pieK_ne t
  have hk : wk ws s ≠ 0 := by
   rw [e] at h
   have h : At ws s (w :: _) := h
   rw [h.wk]; exact hw
  obtain ⟨s', h1, h2⟩ := pie_go t l.length h
  rw [polsF, if_neg hk, h1, if_neg (by have := h2.1; simpa using this)]
  obtain ⟨s2, h3, h4⟩ := pies_go ts n (l ++ [barePol (pieN l.length t)]) s' (by rw [List.length_cons] at hn; omega) h2
  refine ⟨s2, h3, ?_⟩
  rw [h4, List.length_append, List.length_singleton]
  simp [piesN]
 | [], 0, l, s, hn, _ => absurd hn (by simp)
 | _ :: _, 0, l, s, hn, _ => absurd hn (by simp)
theorem pieT_len (t : Str) : (pieT t).length ≤ t.length + 44 := by
 unfold pieT idT bareT
 split <;> simp <;> omega
theorem pies_pols (ts : List Str) (h : ∀ t ∈ ts, quote t = [34] ++ t ++ [34] ∧ t.length ≤ 100) (hn : ts.length ≤ 100) :
  polsS (ts.flatMap pieT) = if twiceB (piesN 0 ts) then ([], 13, 0) else ((piesN 0 ts).map barePol, 0, 0) := by
 have hl : (ts.flatMap pieT).length ≤ 144 * ts.length := by
  clear hn
  induction ts with
  | nil => simp
  | cons t ts ih =>
   have := pieT_len t
   have := (h t List.mem_cons_self).2
   have := ih fun u hu => h u (List.mem_cons_of_mem _ hu)
   rw [List.flatMap_cons, List.length_append, List.length_cons]; omega
 obtain ⟨l, hw, hK⟩ := (pies_lexs ts fun t ht => (h t ht).1).words
 have hlen : ts.length < l.length + 1 := by
  have e := congrArg List.length hK
  rw [List.length_map, List.length_append, List.length_singleton] at e
  have : ts.length ≤ (ts.flatMap pieK).length := by
   clear h hn hl hw hK e
   induction ts with
   | nil => simp
   | cons t ts ih =>
    obtain ⟨w, K, e, -⟩ := pieK_ne t
    rw [List.flatMap_cons, List.length_append, List.length_cons, e, List.length_cons]; omega
  omega
 unfold polsS
 rw [if_neg (by omega), hw]
 simp only
 obtain ⟨s', h1, h2⟩ := pies_go ts (l.length + 1) [] (st0 0) hlen (At.of hK 0)
 unfold polsL
 dsimp only
 rw [h2]
 dsimp only
 rw [if_neg (by simpa using h1), List.nil_append, List.length_nil, List.map_map]
 have e : (Pol.id ∘ barePol) = id := rfl
 rw [e, List.map_id]
end Go.Proofs.YtnenbihkcjgddaaDoor
namespace Go.Proofs.YtnenbihkcjgddaaDoor
open Go Go.Eng
set_option maxHeartbeats 1000000
set_option linter.unusedSimpArgs false
set_option linter.unusedVariables false
set_option maxRecDepth 20000
def PolOk (x : Pol) : Prop := x.a.slot = false ∧ ∀ c ∈ x.conds, depX c.2 ≤ 50 ∧ (hasSl c.2 prN = true → x.p.slot = true) ∧ (hasSl c.2 reN = true → x.r.slot = true)
section
variable {ws : Ws}
theorem condP_ok {x : Pol} {wh : Bool} {s : St} (h : (condP ws x wh s).2.e = 0) (hx : PolOk x) : PolOk (condP ws x wh s).1 := by
 unfold condP at h ⊢
 dsimp only at h ⊢
 generalize mustS ws s [123] = s1 at *
 by_cases he : s1.e = 0
 ·rw [if_neg (by simpa using he)] at h ⊢
  by_cases h0 : (readS ws s1.p).2.2.1 = 0
  ·rw [if_neg (by simpa using h0)] at h ⊢
   generalize mustS ws ⟨(readS ws s1.p).2.1, s1.deep, s1.e, s1.bad⟩ [125] = s2 at *
   generalize (readS ws s1.p).1 = t at *
   dsimp only at h ⊢
   by_cases hs : (!x.p.slot && hasSl t prN || !x.r.slot && hasSl t reN) = true
   ·rw [if_pos hs] at h; exact absurd h (failA_e (by decide))
   ·rw [if_neg hs] at h
    by_cases hd : 50 < depX t
    ·rw [if_pos hd] at h; exact absurd h (failA_e (by decide))
    ·refine ⟨hx.1, fun c hc => ?_⟩
     rcases List.mem_append.1 hc with hc | hc
     ·exact hx.2 c hc
     ·rw [List.mem_singleton.1 hc]
      refine ⟨by show depX t ≤ 50; omega, fun h1 => ?_, fun h1 => ?_⟩
      ·show x.p.slot = true
       have h1 : hasSl t prN = true := h1
       cases hp : x.p.slot with
       | true => rfl
       | false => exact absurd (by rw [hp, h1]; rfl) hs
      ·show x.r.slot = true
       have h1 : hasSl t reN = true := h1
       cases hp : x.r.slot with
       | true => rfl
       | false => exact absurd (by rw [hp, h1]; simp) hs
  ·rw [if_pos h0] at h; exact absurd h h0
 ·rw [if_pos he] at h; exact absurd h he
theorem condsF_ok : ∀ {n : Nat} {x : Pol} {s : St} (hE : WsEnd ws), (condsF ws n x s).2.e = 0 → PolOk x → PolOk (condsF ws n x s).1
 | 0, x, s, _, _, hx => hx
 | n + 1, x, s, hE, h, hx => by
  rw [condsF] at h ⊢
  split at h
  ·rw [if_pos (by assumption)]; exact hx
  rename_i he
  rw [if_neg he]
  split at h
  ·rename_i hi
   rw [if_pos hi]
   exact condsF_ok hE h (condP_ok ((Go0.conds hE).2 h).1 hx)
  rename_i hi
  rw [if_neg hi]
  split at h
  ·rename_i hj
   rw [if_pos hj]
   exact condsF_ok hE h (condP_ok ((Go0.conds hE).2 h).1 hx)
  ·rename_i hj
   rw [if_neg hj]; exact hx
theorem actionP_slot {s : St} : (actionP ws s).1.slot = false := by
 unfold actionP actUid kindS
 dsimp only
 repeat' split
 all_goals rfl
theorem policyP_ok {n : Int} {s : St} (hE : WsEnd ws) (h : (policyP ws n s).2.e = 0) : PolOk (policyP ws n s).1 := by
 unfold policyP at h ⊢
 refine condsF_ok hE h ?_
 unfold headP
 exact ⟨actionP_slot, fun c hc => by cases hc⟩
theorem polsF_ok (hE : WsEnd ws) : ∀ {n : Nat} {l : List Pol} {s : St}, (∀ x ∈ l, PolOk x) → ∀ x ∈ (polsF ws n l s).1, PolOk x
 | 0, l, s, hl => hl
 | n + 1, l, s, hl => by
  rw [polsF]
  split
  ·exact hl
  split
  ·intro x hx; cases hx
  ·rename_i he
   refine polsF_ok hE fun x hx => ?_
   rcases List.mem_append.1 hx with hx | hx
   ·exact hl x hx
   ·rw [List.mem_singleton.1 hx]; exact policyP_ok hE (by simpa using he)
end
theorem polsS_ok (t : Str) : ((polsS t).2.1 = 0 → ∀ x ∈ (polsS t).1, PolOk x) ∧ ((polsS t).2.1 ≠ 0 → (polsS t).1 = []) := by
 unfold polsS
 split
 ·exact ⟨fun h => absurd h (by decide), fun _ => rfl⟩
 ·split
  ·exact ⟨fun _ x hx => (by cases hx), fun _ => rfl⟩
  ·rename_i l hw
   have hE := words_end hw
   unfold polsL
   dsimp only
   split
   ·rename_i he; exact ⟨fun h => absurd h he, fun _ => rfl⟩
   split
   ·exact ⟨fun h => absurd h (by decide), fun _ => rfl⟩
   ·exact ⟨fun _ => polsF_ok hE fun x hx => (by cases hx), fun h => absurd rfl h⟩
theorem pol_atG {F : Base} {G : Hp} {a : Option Addr} {i : Nat} {x : Pol} {va vc : Value} (h : Cl (rdObj F G) a 21 i (polC x v0 va v0 vc)) : ∃ b off, a = some ⟨b, off, none⟩ ∧ ldV F G 21 true (.pointer (some ⟨b, off + i * 21, none⟩)) = some (True, .agg (polC x v0 va v0 vc).toArray) ∧
  ∀ o, o + 1 ≤ 21 → ldV F G 1 false (.pointer (some ⟨b, off + i * 21 + o, none⟩)) = some (True, (polC x v0 va v0 vc).getD o undef) := by
 obtain ⟨b, off, rfl, l1, l2⟩ := h.all
 refine ⟨b, off, rfl, ?_, fun o ho => ?_⟩
 ·rw [← ldV_flat]; exact l1 0 21 (by decide) []
 ·rw [← ldV_flat]; exact l2 o ho []
theorem cond_atG {F : Base} {G : Hp} {a : Option Addr} {i : Nat} {w : Bool} {cs : List Value} (h : Cl (rdObj F G) a 13 i (.bool w :: cs)) : ∃ b off, a = some ⟨b, off, none⟩ ∧
  ldV F G 1 false (.pointer (some ⟨b, off + i * 13, none⟩)) = some (True, .bool w) ∧ ldV F G 12 true (.pointer (some ⟨b, off + i * 13 + 1, none⟩)) = some (True, .agg cs.toArray) := by
 obtain ⟨b, off, rfl, l1, l2⟩ := cond_at h
 exact ⟨b, off, rfl, by rw [← ldV_flat]; exact l1 [], by rw [← ldV_flat]; exact l2 []⟩
set_option maxHeartbeats 4000000 in
theorem slots_law (F : Base) (hg : HasMarks F) (hMx : HasMx F) (t : Str) (ht : t.length ≤ 9223372036854775807) : PureV Tryd.prog F 3 #[.string (bs t)] (.bool true) := by
 refine pureV_of_svc (args := [.string (bs t)]) mixed Tryd.func3 low3 (Nat.le_of_ble_eq_true rfl) (fun w0 => ?_)
 simp only [*, fu3, ↓ZD, ZW, RO, simprocAttr]
 refine CallE.pure (awake_pure F hg hMx) ?_
 simp only [*, ↓ZD, ZW, RO, simprocAttr]
 intro hl
 refine CallE.mk0 (pparse_does F hg hMx t ht) ?_
 obtain ⟨ok1, ok2⟩ := polsS_ok t
 generalize polsS t = R at *
 rintro _ G ⟨v, rfl, ⟨gs, ⟨a1, c1, rfl, hc1, hm1, k1⟩, r1⟩, wG⟩ -
 have el := r1.len
 rw [el] at hc1 ⊢
 obtain ⟨xs, e, n⟩ := R
 dsimp only at ok1 ok2 r1 el hc1 ⊢
 have hN : xs.length ≤ 9223372036854775807 := by omega
 simp only [*, ↓ZD, ZW, RO, simprocAttr]
 refine ⟨fun h => ?_, fun h => ?_⟩
 ·have he : e ≠ 0 := by simpa using h
  rw [ok2 he]
  rfl
 ·have he : e = 0 := by simpa using h
  replace ok1 := ok1 he
  clear ok2 he h
  refine LoopL.inv (α := Nat) (fun i => i ≤ xs.length) (fun i => [(4, some (.slice a1 xs.length c1)), (7, some (.int .i64 i))])
   (fun i => G) (fun i => xs.length - i) 0 (Nat.zero_le _) (by simp only [*, ↓ZD, ZW, RO, simprocAttr]) (by simp only [*, ↓ZD, ZW, RO, simprocAttr]) ?_
  intro i hi
  by_cases hlt : i < xs.length
  ·have hd : decide ((i : Int) < (xs.length : Int)) = true := by simp; omega
   have hx : xs[i]? = some xs[i] := List.getElem?_eq_getElem hlt
   have hok := ok1 _ (List.getElem_mem hlt)
   generalize xs[i] = x at *
   obtain ⟨g1, hg1, va, vc, rfl, u1, s1⟩ := r1.at hx
   obtain ⟨gc, ⟨ac, cc, rfl, hcc, hcm, kc⟩, rc⟩ := s1
   have ec := rc.len
   obtain ⟨ba, oa, rfl, A, A1⟩ := pol_atG (k1 i _ hg1)
   have B6 := A1 6 (by decide)
   have B12 := A1 12 (by decide)
   have B18 := A1 18 (by decide)
   have B20 := A1 20 (by decide)
   simp only [List.getD_cons_zero, List.getD_cons_succ] at B6 B12 B18 B20
   have hsl := hok.1
   have hva : oneCell va = true := by obtain ⟨_, _, rfl, _⟩ := u1; rfl
   clear A1
   simp only [*, ↓ZD, ZW, RO, simprocAttr]
   refine conj.of (by omega) ?_
   simp only [*, Int.toNat_natCast, ↓A, ↓ZD, ZW, RO, simprocAttr]
   refine CallE.pureH (pslots_pure _ x hva rfl) ?_
   simp only [*, Int.toNat_natCast, ↓A, ↓B6, ↓B12, ↓B18, ↓B20, ↓ZD, ZW, RO, simprocAttr]
   repeat' (refine conj.of (by omega) ?_; simp only [*, Int.toNat_natCast, ↓B6, ↓B12, ↓B18, ↓B20, bne_self_eq_false, Bool.or_self, ↓ZD, ZW, RO, simprocAttr])
   have hcl : x.conds.length ≤ 9223372036854775807 := by omega
   refine LoopL.inv (α := Nat) (fun j => j ≤ x.conds.length) (fun j => [(4, some (.slice (some ⟨ba, oa, none⟩) xs.length c1)), (7, some (.int .i64 i)), (8, some (.bool x.p.slot)), (9, some (.bool x.r.slot)), (10, some (.int .i64 j))])
    (fun j => G) (fun j => x.conds.length - j) 0 (Nat.zero_le _) (by simp only [*, ↓ZD, ZW, RO, simprocAttr]) (by simp only [*, ↓ZD, ZW, RO, simprocAttr]) ?_
   intro j hj
   by_cases hlj : j < x.conds.length
   ·have hdj : decide ((j : Int) < (x.conds.length : Int)) = true := by simp; omega
    have hy : x.conds[j]? = some x.conds[j] := List.getElem?_eq_getElem hlj
    obtain ⟨d1, d2, d3⟩ := hok.2 _ (List.getElem_mem hlj)
    generalize x.conds[j] = y at *
    obtain ⟨y1, hy1, cs1, rfl, ry1⟩ := rc.at hy
    obtain ⟨bc, oc, rfl, C1, C2⟩ := cond_atG (kc j _ hy1)
    have f1 : (hasSl y.2 prN && !x.p.slot) = false := by
     cases h : hasSl y.2 prN with
     | false => rfl
     | true => rw [d2 h]; rfl
    have f2 : (hasSl y.2 reN && !x.r.slot) = false := by
     cases h : hasSl y.2 reN with
     | false => rfl
     | true => rw [d3 h]; rfl
    have f3 : decide ((50 : Int) < (depX y.2 : Int)) = false := by simp; omega
    simp only [*, Int.toNat_natCast, ↓B20, ↓ZD, ZW, RO, simprocAttr]
    repeat' (refine conj.of (by omega) ?_; simp only [*, Int.toNat_natCast, ↓B20, ↓C2, ↓ZD, ZW, RO, simprocAttr])
    refine CallE.pureH (slotted_pure _ prN ry1.toX) ?_
    simp only [*, Int.toNat_natCast, ↓B20, ↓C2, ↓ZD, ZW, RO, simprocAttr]
    repeat' (refine conj.of (by omega) ?_; simp only [*, Int.toNat_natCast, ↓B20, ↓C2, ↓ZD, ZW, RO, simprocAttr])
    refine CallE.pureH (slotted_pure _ reN ry1.toX) ?_
    simp only [*, Int.toNat_natCast, ↓B20, ↓C2, ↓ZD, ZW, RO, simprocAttr]
    repeat' (refine conj.of (by omega) ?_; simp only [*, Int.toNat_natCast, ↓B20, ↓C2, ↓ZD, ZW, RO, simprocAttr])
    refine CallQ.of _ (rdep_pure _ ry1.toX (by omega)) ?_
    simp (disch := first | assumption | exact Ne.symm (by assumption) | omega) only [*, Int.toNat_natCast, ↓B20, ↓C2, ↓ZD, ZW, RO, simprocAttr]
    refine invK.on (j + 1) (by omega) (by omega) (by simp only [*, ↓ZD, ZW, RO, simprocAttr]; rfl) (by simp only [*, ↓ZD, ZW, RO, simprocAttr])
   ·have hdj : decide ((j : Int) < (x.conds.length : Int)) = false := by simp; omega
    obtain rfl : j = x.conds.length := by omega
    simp only [*, Int.toNat_natCast, ↓B20, ↓ZD, ZW, RO, simprocAttr]
    refine conj.of (by omega) ?_
    simp (disch := first | assumption | exact Ne.symm (by assumption) | omega) only [*, Int.toNat_natCast, ↓B20, ↓ZD, ZW, RO, simprocAttr]
    refine invK.on (i + 1) (by omega) (by omega) (by simp only [*, ↓ZD, ZW, RO, simprocAttr]; rfl) (by simp only [*, ↓ZD, ZW, RO, simprocAttr])
  ·have hd : decide ((i : Int) < (xs.length : Int)) = false := by simp; omega
   obtain rfl : i = xs.length := by omega
   simp only [*, ↓ZD, ZW, RO, simprocAttr]
end Go.Proofs.YtnenbihkcjgddaaDoor
namespace Go.Proofs.YtnenbihkcjgddaaDoor
open Go Go.Eng
set_option maxHeartbeats 1000000
set_option linter.unusedSimpArgs false
set_option linter.unusedVariables false
set_option maxRecDepth 20000
theorem piesN_snoc : ∀ (ts : List Str) (i : Nat) (t : Str), piesN i (ts ++ [t]) = piesN i ts ++ [pieN (i + ts.length) t]
 | [], i, t => by simp [piesN]
 | u :: ts, i, t => by
  rw [List.cons_append, piesN, piesN, piesN_snoc ts (i + 1) t, List.cons_append, List.length_cons, show i + 1 + ts.length = i + (ts.length + 1) by omega]
theorem piesN_len : ∀ (ts : List Str) (i : Nat), (piesN i ts).length = ts.length
 | [], i => rfl
 | u :: ts, i => by rw [piesN, List.length_cons, List.length_cons, piesN_len ts]
def digTab : List Str := [[48], [49], [50], [51], [52], [53], [54], [55], [56], [57], [49, 48], [49, 49]]
theorem dig_tab (i : Nat) (h : i < 12) : digTab.getD i [] = shows i := by
 have e : i = 0 ∨ i = 1 ∨ i = 2 ∨ i = 3 ∨ i = 4 ∨ i = 5 ∨ i = 6 ∨ i = 7 ∨ i = 8 ∨ i = 9 ∨ i = 10 ∨ i = 11 := by omega
 rcases e with rfl | rfl | rfl | rfl | rfl | rfl | rfl | rfl | rfl | rfl | rfl | rfl <;> (unfold shows digTab; first | (rw [if_neg (by decide), digs_lt (by decide)]; rfl) | (rw [if_neg (by decide), digs_ge (by decide), digs_lt (by decide)]; rfl))
theorem tab_ok : ∀ t ∈ idTab, quote t = [34] ++ t ++ [34] ∧ t.length ≤ 100 := by decide +kernel
structure IdS where
 ts : List Str
 v : Value
 Ho : Hp
structure IdOk (F : Base) (N : Nat) (y : IdS) : Prop where
 n : y.ts.length ≤ N
 m : ∀ t ∈ y.ts, t ∈ idTab
 o : OwnS F 1 9 ((piesN 0 y.ts).map fun s => Value.string (bs s)) y.ts.length y.v y.Ho
theorem tab_at {k : Nat} (h : k < 6) {T : Nat} : cellsO (some (.cells #[.string (bs []), .string (bs [97]), .string (bs [98]), .string (bs [112, 111, 108, 105, 99, 121, 48]), .string (bs [112, 111, 108, 105, 99, 121, 51]), .string (bs [99])] T (0, 0))) k 1 = some [.string (bs (idTab.getD k []))] := by
 have e : k = 0 ∨ k = 1 ∨ k = 2 ∨ k = 3 ∨ k = 4 ∨ k = 5 := by omega
 rcases e with rfl | rfl | rfl | rfl | rfl | rfl <;> rfl
theorem dig_at {k : Nat} (h : k < 12) {T : Nat} : cellsO (some (.cells #[.string (bs [48]), .string (bs [49]), .string (bs [50]), .string (bs [51]), .string (bs [52]), .string (bs [53]), .string (bs [54]), .string (bs [55]), .string (bs [56]), .string (bs [57]), .string (bs [49, 48]), .string (bs [49, 49])] T (0, 0))) k 1 = some [.string (bs (shows k))] := by
 rw [← dig_tab k h]
 have e : k = 0 ∨ k = 1 ∨ k = 2 ∨ k = 3 ∨ k = 4 ∨ k = 5 ∨ k = 6 ∨ k = 7 ∨ k = 8 ∨ k = 9 ∨ k = 10 ∨ k = 11 := by omega
 rcases e with rfl | rfl | rfl | rfl | rfl | rfl | rfl | rfl | rfl | rfl | rfl | rfl <;> rfl
theorem piesN_bd : ∀ (ts : List Str) (i : Nat), (∀ t ∈ ts, t ∈ idTab) → i + ts.length ≤ 12 → ∀ s ∈ piesN i ts, s.length ≤ 65536
 | [], _, _, _, s, hs => by cases hs
 | t :: ts, i, h, hi, s, hs => by
  rw [List.length_cons] at hi
  rw [piesN] at hs
  rcases List.mem_cons.1 hs with rfl | hs
  ·have h1 := (tab_ok t (h t List.mem_cons_self)).2
   have h2 := shows_len (a := (i : Int)) (by unfold I64; omega)
   unfold pieN
   split
   ·rw [List.length_append]; show 6 + _ ≤ 65536; omega
   ·omega
  ·exact piesN_bd ts (i + 1) (fun u hu => h u (List.mem_cons_of_mem _ hu)) (by omega) s hs
theorem pies_tl : ∀ (ts : List Str), (∀ t ∈ ts, t ∈ idTab) → (ts.flatMap pieT).length ≤ 144 * ts.length
 | [], _ => by simp
 | t :: ts, h => by
  have := pieT_len t
  have := (tab_ok t (h t List.mem_cons_self)).2
  have := pies_tl ts fun u hu => h u (List.mem_cons_of_mem _ hu)
  rw [List.flatMap_cons, List.length_append, List.length_cons]; omega
theorem mem_take_succ {l : List Str} {k : Nat} {x y : Str} (h : l[k]? = some y) : decide (x ∈ l.take (k + 1)) = (decide (x ∈ l.take k) || (y == x)) := by
 rw [take_snoc h]
 by_cases h2 : y = x
 ·subst h2; simp
 ·have h3 : ¬ x = y := fun e => h2 e.symm
  simp [h2, h3]
set_option maxHeartbeats 4000000 in
theorem ids_law (F : Base) (hg : HasMarks F) (hMx : HasMx F) (a : Option Addr) (len cap : Nat) (g : Nat → Int) (hb : BytesIn F a len g) (hl : len ≤ 9223372036854775807) : PureV Tryd.prog F 4 #[.slice a len cap] (.bool true) := by
 obtain ⟨hgb, hr⟩ := hb
 refine pureV_of_svc (args := [.slice a len cap]) mixed Tryd.func4 low4 (Nat.le_of_ble_eq_true rfl) (fun w0 => ?_)
 simp only [*, fu4, ↓ZD, ZW, RO, simprocAttr]
 refine CallE.pure (awake_pure F hg hMx) ?_
 simp only [*, ↓ZD, ZW, RO, simprocAttr]
 intro h12
 have h12 : len ≤ 12 := by simp at h12; omega
 refine LoopL.inv (IdOk F len) (fun y => [(0, some (.slice a len cap)), (4, some (.string (bs (y.ts.flatMap pieT)))), (5, some y.v), (6, some (.bool (twiceB (piesN 0 y.ts)))), (7, some (.int .i64 y.ts.length))])
  (fun y => y.Ho) (fun y => len - y.ts.length) ⟨[], .slice none 0 0, []⟩ ⟨Nat.zero_le _, fun t h => (by cases h), .nil⟩ (by simp only [*, ↓ZD, ZW, RO, simprocAttr]; try (first | rfl | exact ⟨rfl, rfl⟩)) (by simp only [*, ↓ZD, ZW, RO, simprocAttr]) ?_
 rintro ⟨ts, v, Ho⟩ ⟨hn, hm, ho⟩
 dsimp only at hn hm ho ⊢
 have nf := ho.noF
 have wk := OwnS.sub ho
 obtain ⟨base, capo, hv, hc⟩ := ho.len_le
 subst hv
 by_cases hlt : ts.length < len
 ·have hd : decide ((ts.length : Int) < (len : Int)) = true := by simp; omega
  obtain ⟨b, off, rfl, hld⟩ := hr _ hlt
  have hgi := hgb _ hlt
  simp only [*, ↓ZD, ZW, RO, simprocAttr]
  refine NewB.n ?_
  rintro bt hbt hFt
  simp only [*, ↓ZD, ZW, RO, simprocAttr]
  refine conj.of (by omega) ?_
  simp only [*, Int.toNat_natCast, Nat.mul_one, ↓hld, ↓ZD, ZW, RO, simprocAttr]
  obtain ⟨k, hk, hk6⟩ : ∃ k : Nat, g ts.length % 6 = k ∧ k < 6 := ⟨(g ts.length % 6).toNat, by omega, by omega⟩
  rw [hk]
  have htab := tab_at hk6 (T := 9)
  have htm : idTab.getD k [] ∈ idTab := by
   rw [List.getD_eq_getElem?_getD, List.getElem?_eq_getElem (by exact hk6)]; exact List.getElem_mem _
  generalize idTab.getD k [] = t at *
  refine conj.of (by omega) ?_
  simp only [*, Int.toNat_natCast, Nat.mul_one, ↓hld, ↓ZD, ZW, RO, simprocAttr]
  have hSl := pies_tl ts hm
  have htl : t.length ≤ 100 := (tab_ok t htm).2
  have hsh : (shows (ts.length : Int)).length ≤ 21 := shows_len (by unfold I64; omega)
  refine ⟨fun h => ?c1, fun h => ?c2⟩
  case' c1 =>
   have ht : t ≠ [] := by simpa using h
   have hid : pieN ts.length t = t := if_neg ht
   have hS : (ts ++ [t]).flatMap pieT = ts.flatMap pieT ++ 64 :: 105 :: 100 :: 40 :: 34 :: (t ++ [34, 41, 32]) ++ [112, 101, 114, 109, 105, 116, 40, 112, 114, 105, 110, 99, 105, 112, 97, 108, 44, 32, 97, 99, 116, 105, 111, 110, 44, 32, 114, 101, 115, 111, 117, 114, 99, 101, 41, 59] := by
    rw [List.flatMap_append, List.flatMap_cons, List.flatMap_nil, List.append_nil, pieT, if_neg ht, List.append_assoc (ts.flatMap pieT)]; rfl
   repeat' (refine conj.of (by (try simp only [List.length_append, List.length_cons, List.length_nil]); omega) ?_; simp only [*, ↓ZD, ZW, RO, simprocAttr])
  case' c2 =>
   have ht : t = [] := by simpa using h
   have hid : pieN ts.length t = 112 :: 111 :: 108 :: 105 :: 99 :: 121 :: shows ts.length := if_pos ht
   have hS : (ts ++ [t]).flatMap pieT = ts.flatMap pieT ++ [112, 101, 114, 109, 105, 116, 40, 112, 114, 105, 110, 99, 105, 112, 97, 108, 44, 32, 97, 99, 116, 105, 111, 110, 44, 32, 114, 101, 115, 111, 117, 114, 99, 101, 41, 59] := by
    rw [List.flatMap_append, List.flatMap_cons, List.flatMap_nil, List.append_nil, pieT, if_pos ht]; rfl
   clear ht h
   refine NewB.n ?_
   rintro bd hbd hFd
   simp only [Nb_cons] at hbd
   simp only [*, ↓ZD, ZW, RO, simprocAttr]
   refine conj.of (by omega) ?_
   have hdig := dig_at (k := ts.length) (T := 9) (by omega)
   simp only [*, Int.toNat_natCast, Nat.mul_one, ↓ZD, ZW, RO, simprocAttr]
   repeat' (refine conj.of (by (try simp only [List.length_append, List.length_cons, List.length_nil]); omega) ?_; simp only [*, ↓ZD, ZW, RO, simprocAttr])
  all_goals
   refine LoopL.inv (α := Nat) (fun k => k ≤ ts.length) (fun k => [(0, some (.slice (some ⟨b, off, none⟩) len cap)), (4, some (.string (bs ((ts ++ [t]).flatMap pieT)))), (5, some (.slice base ts.length capo)), (6, some (.bool (twiceB (piesN 0 ts) || decide (pieN ts.length t ∈ (piesN 0 ts).take k)))), (7, some (.int .i64 ts.length)), (8, some (.string (bs (pieN ts.length t)))), (9, some (.int .i64 k))])
    (fun k => Ho) (fun k => ts.length - k) 0 (Nat.zero_le _) (by simp only [*, List.take_zero, List.not_mem_nil, ↓ZD, ZW, RO, simprocAttr]) (by simp only [*, ↓ZD, ZW, RO, simprocAttr]) ?_
   clear hS hid
   have hlenN := piesN_len ts 0
   have hsn := piesN_snoc ts 0 t
   rw [Nat.zero_add] at hsn
   have htw := twiceB_snoc (pieN ts.length t) (piesN 0 ts)
   rw [← hsn] at htw
   have hidl : (pieN ts.length t).length ≤ 65536 := by
    unfold pieN
    split
    ·rw [List.length_append]; show 6 + _ ≤ 65536; omega
    ·omega
   have hdec : (ts ++ [t]).length = ts.length + 1 := by simp
   have hms : ∀ u ∈ ts ++ [t], u ∈ idTab := fun u hu => by
    rcases List.mem_append.1 hu with hu | hu
    ·exact hm u hu
    ·rw [List.mem_singleton.1 hu]; exact htm
   have hwant : ∀ k, k < ts.length → ∃ bw ow, base = some ⟨bw, ow, none⟩ ∧ ldV F Ho 1 false (.pointer (some ⟨bw, ow + k * 1, none⟩)) = some (True, .string (bs ((piesN 0 ts).getD k []))) := fun k hk => by
    have hsls : SlS (rdObj F Ho) (.slice base ts.length capo) (piesN 0 ts) := names_sls (T := 9) (by rw [hlenN]; exact ho) (fun e he => wk e he) (piesN_bd ts 0 hm (by omega)) (by omega)
    obtain ⟨a', c', e, -, -, hs1, -⟩ := hsls
    injection e with e1
    subst e1
    obtain ⟨bw, ow, rfl, hq⟩ := (hs1 k _ (getS (by rw [hlenN]; exact hk))).ld1
    exact ⟨bw, ow, rfl, by rw [← ldV_flat]; exact hq []⟩
   have hgd : ∀ k, k < ts.length → (piesN 0 ts)[k]? = some ((piesN 0 ts).getD k []) := fun k hk => getS (by rw [hlenN]; exact hk)
   generalize pieN ts.length t = id at *
   rintro k hk
   by_cases hlk : k < ts.length
   ·have hdk : decide ((k : Int) < (ts.length : Int)) = true := by simp; omega
    obtain ⟨bw, ow, rfl, hlw⟩ := hwant k hlk
    have hmt := mem_take_succ (x := id) (hgd k hlk)
    simp only [*, ↓ZD, ZW, RO, simprocAttr]
    refine conj.of (fun _ => by omega) ?_
    simp only [*, Int.toNat_natCast, ↓hlw, ↓ZD, ZW, RO, simprocAttr]
    simp (disch := first | assumption | exact Ne.symm (by assumption) | omega) only [*, ↓ZD, ZW, RO, simprocAttr]
    refine invK.on (k + 1) (by omega) (by omega) (by simp only [*, Bool.or_assoc, ↓ZD, ZW, RO, simprocAttr]; try (first | rfl | exact ⟨rfl, rfl⟩)) (by simp only [*, ↓ZD, ZW, RO, simprocAttr])
   ·have hdk : decide ((k : Int) < (ts.length : Int)) = false := by simp; omega
    obtain rfl : k = ts.length := by omega
    have htk : (piesN 0 ts).take ts.length = piesN 0 ts := List.take_of_length_le (by omega)
    simp only [*, ↓ZD, ZW, RO, simprocAttr]
    refine NewB.n ?_
    rintro bz hz hFz
    simp only [*, ↓ZD, ZW, RO, simprocAttr]
    refine EfL.more (m := 1) (nw := [.string (bs id)]) ho (by simp only [*, ↓ZD, ZW, RO, simprocAttr]) (rows1 hFz rfl) rfl (by simp [oneCell]) (by simp) (by omega) ?_
    intro bn capn sp2 hs hcap hcm hFn h2
    simp only [Nb_cons, Nb_app, Nb_nil] at h2
    simp (disch := first | assumption | exact Ne.symm (by assumption) | omega) only [*, ↓ZD, ZW, RO, simprocAttr]
    refine invK.on ⟨ts ++ [t], .slice (some ⟨bn, 0, none⟩) (ts.length + 1) capn, [(bn, .cells (((piesN 0 ts).map fun s => Value.string (bs s)) ++ [Value.string (bs id)] ++ sp2).toArray 9 (0, 0))]⟩ ⟨by simp; omega, hms, ?_⟩ (by simp only [hdec]; omega) (by simp only [*, twiceB_snoc, ↓ZD, ZW, RO, simprocAttr]; try (first | rfl | exact ⟨rfl, rfl⟩)) (by simp only [*, ↓ZD, ZW, RO, simprocAttr])
    exact OwnS.mk sp2 hFn (by rw [hsn]; simp) (by simp) (by rw [hsn]; simp [hlenN]) (by simpa using hs) (by simpa using hcap) hcm
 ·have hd : decide ((ts.length : Int) < (len : Int)) = false := by simp; omega
  have hSl := pies_tl ts hm
  simp only [*, ↓ZD, ZW, RO, simprocAttr]
  refine CallE.mk0 (pparse_does F hg hMx (ts.flatMap pieT) (by omega)) ?_
  rw [pies_pols ts (fun t ht => tab_ok t (hm t ht)) (by omega)]
  have hlenN := piesN_len ts 0
  cases htw : twiceB (piesN 0 ts)
  ·rw [if_neg (by simp)]
   rintro _ G ⟨v, rfl, ⟨gs, ⟨a1, c1, rfl, hc1, hm1, k1⟩, r1⟩, wG⟩ dj
   have el : gs.length = ts.length := by rw [r1.len, List.length_map, hlenN]
   simp only [*, Bool.or_self, bne_self_eq_false, ↓ZD, ZW, RO, simprocAttr]
   have hgd : ∀ k, k < ts.length → (piesN 0 ts)[k]? = some ((piesN 0 ts).getD k []) := fun k hk => getS (by rw [hlenN]; exact hk)
   have hwk : Wk (Ho ++ G) := wk.app wG (Dj.iff.1 dj)
   have hwant : ∀ k, k < ts.length → ∃ bw ow, base = some ⟨bw, ow, none⟩ ∧ ldV F (Ho ++ G) 1 false (.pointer (some ⟨bw, ow + k * 1, none⟩)) = some (True, .string (bs ((piesN 0 ts).getD k []))) := fun k hk => by
    have hsls : SlS (rdObj F (Ho ++ G)) (.slice base ts.length capo) (piesN 0 ts) := names_sls (T := 9) (by rw [hlenN]; exact ho) (fun e he => hwk e (List.mem_append_left _ he)) (piesN_bd ts 0 hm (by omega)) (by omega)
    obtain ⟨a', c', e, -, -, hs1, -⟩ := hsls
    injection e with e1
    subst e1
    obtain ⟨bw, ow, rfl, hq⟩ := (hs1 k _ (hgd k hk)).ld1
    exact ⟨bw, ow, rfl, by rw [← ldV_flat]; exact hq []⟩
   have hids : ∀ k, k < ts.length → ∃ bw ow, a1 = some ⟨bw, ow, none⟩ ∧ ldV F (Ho ++ G) 1 false (.pointer (some ⟨bw, ow + k * 21, none⟩)) = some (True, .string (bs ((piesN 0 ts).getD k []))) := fun k hk => by
    have hx : ((piesN 0 ts).map barePol)[k]? = some (barePol ((piesN 0 ts).getD k [])) := by rw [List.getElem?_map, hgd k hk]; rfl
    obtain ⟨g1, hg1, va, vc, rfl, -, -⟩ := r1.at hx
    obtain ⟨bw, ow, rfl, -, q⟩ := pol_atG ((k1 k _ hg1).mono fun b o h => rdObj_r (Dj.iff.1 dj) h)
    exact ⟨bw, ow, rfl, q 0 (by decide)⟩
   clear hgd r1 k1 htw
   refine LoopL.inv (α := Nat) (fun k => k ≤ ts.length) (fun k => [(5, some (.slice base ts.length capo)), (10, some (.slice a1 ts.length c1)), (13, some (.int .i64 k))])
    (fun k => Ho ++ G) (fun k => ts.length - k) 0 (Nat.zero_le _) (by simp only [*, ↓ZD, ZW, RO, simprocAttr]) (by simp only [*, ↓ZD, ZW, RO, simprocAttr]) ?_
   intro k hk
   by_cases hlk : k < ts.length
   ·have hdk : decide ((k : Int) < (ts.length : Int)) = true := by simp; omega
    obtain ⟨b1, o1, rfl, q1⟩ := hwant k hlk
    obtain ⟨b2, o2, rfl, q2⟩ := hids k hlk
    simp only [*, ↓ZD, ZW, RO, simprocAttr]
    refine conj.of (by omega) ?_
    simp only [*, Int.toNat_natCast, ↓q1, ↓q2, ↓ZD, ZW, RO, simprocAttr]
    refine conj.of (by omega) ?_
    simp only [*, Int.toNat_natCast, ↓q1, ↓q2, bne_self_eq_false, ↓ZD, ZW, RO, simprocAttr]
    simp (disch := first | assumption | exact Ne.symm (by assumption) | omega) only [*, ↓ZD, ZW, RO, simprocAttr]
    refine invK.on (k + 1) (by omega) (by omega) (by simp only [*, ↓ZD, ZW, RO, simprocAttr]; rfl) (by simp only [*, ↓ZD, ZW, RO, simprocAttr])
   ·have hdk : decide ((k : Int) < (ts.length : Int)) = false := by simp; omega
    obtain rfl : k = ts.length := by omega
    simp only [*, ↓ZD, ZW, RO, simprocAttr]
  ·rw [if_pos rfl]
   rintro _ G ⟨v, rfl, ⟨gs, ⟨a1, c1, rfl, hc1, hm1, k1⟩, r1⟩, wG⟩ -
   have el : gs.length = 0 := r1.len
   simp only [*, ↓ZD, ZW, RO, simprocAttr]
   try rfl
end Go.Proofs.YtnenbihkcjgddaaDoor
