/- Joined. -/
import Derived.Test.YtnenbihkcjgddaaGreatDoorJg
import Derived.Test.YtnenbihkcjgddaaGreatDoorJf
import Derived.Test.YtnenbihkcjgddaaGreatDoorRows
import Derived.LaidLaws
import Derived.LaidMore
import Derived.MakeChecks
import Derived.OpenShut
import Derived.ChangeArms
import Derived.FnData
import Derived.Test.YtnenbihkcjgddaaGreatDoorJb
set_option linter.unusedSectionVars false
namespace Go.Proofs.YtnenbihkcjgddaaGreatDoor
open Go Go.Eng
set_option maxHeartbeats 1000000
set_option linter.unusedSimpArgs false
set_option linter.unusedVariables false
set_option maxRecDepth 20000
theorem rdObj_flat (F : Base) (H : Hp) : rdObj (rdObj F H) [] = rdObj F H := by
 funext b
 unfold rdObj
 cases F b with
 | some o => rfl
 | none => cases h : lk H b <;> simp [lk, h]
theorem ldV_flat {F : Base} {H : Hp} {n : Nat} {g : Bool} {p : Value} : ldV (rdObj F H) [] n g p = ldV F H n g p := by
 unfold ldV qev cellsAt
 rw [rdObj_flat]
theorem cond_at {F : Base} {a : Option Addr} {i : Nat} {w : Bool} {cs : List Value} (h : Cl F a 13 i (.bool w :: cs)) : ∃ b off, a = some ⟨b, off, none⟩ ∧
  (∀ H, ldV F H 1 false (.pointer (some ⟨b, off + i * 13, none⟩)) = some (True, .bool w)) ∧ (∀ H, ldV F H 12 true (.pointer (some ⟨b, off + i * 13 + 1, none⟩)) = some (True, .agg cs.toArray)) := by
 have hl := h.len
 obtain ⟨b, off, rfl, l1, l2⟩ := h.all
 refine ⟨b, off, rfl, l2 0 (by decide), fun H => ?_⟩
 rw [l1 1 12 (by decide) H]
 simp only [List.drop_succ_cons, List.drop_zero]
 rw [List.take_of_length_le (Nat.le_of_eq (by simpa using hl))]
def tp1 : Str := [112, 101, 114, 109, 105, 116, 40, 112, 114, 105, 110, 99, 105, 112, 97, 108, 44, 32, 97, 99, 116, 105, 111, 110, 44, 32, 114, 101, 115, 111, 117, 114, 99, 101, 41, 59]
def tp2 : Str := [112, 101, 114, 109, 105, 116, 40, 112, 114, 105, 110, 99, 105, 112, 97, 108, 32, 61, 61, 32, 63, 114, 101, 115, 111, 117, 114, 99, 101, 44, 32, 97, 99, 116, 105, 111, 110, 44, 32, 114, 101, 115, 111, 117, 114, 99, 101, 41, 59]
def tp3 : Str := [64, 105, 100, 40, 34, 120, 34, 41, 32, 102, 111, 114, 98, 105, 100, 40, 112, 114, 105, 110, 99, 105, 112, 97, 108, 32, 105, 115, 32, 65, 58, 58, 66, 32, 105, 110, 32, 63, 112, 114, 105, 110, 99, 105, 112, 97, 108, 44, 32, 97, 99, 116, 105, 111, 110, 32, 105, 110, 32, 91, 65, 99, 116, 105, 111, 110, 58, 58, 34, 97, 34, 93, 44, 32, 114, 101, 115, 111, 117, 114, 99, 101, 41, 32, 119, 104, 101, 110, 32, 123, 32, 116, 114, 117, 101, 32, 125, 32, 117, 110, 108, 101, 115, 115, 32, 123, 32, 112, 114, 105, 110, 99, 105, 112, 97, 108, 32, 61, 61, 32, 63, 112, 114, 105, 110, 99, 105, 112, 97, 108, 32, 125, 59]
def xPP : Ex' := twoX 8 (.mk 2 lv0 prN [] []) (.mk 3 lv0 prN [] [])
def xA : Pol := ⟨[112, 111, 108, 105, 99, 121, 48], true, sc0, sc0, sc0, []⟩
theorem polsA : polsS tp1 = ([xA], 0, 0) := by kernel_rfl
theorem polsB : polsS tp2 = ([], 32, 20) := by kernel_rfl
def xC : Pol := ⟨[120], false, ⟨4, [65, 58, 58, 66], [], [], true, []⟩, ⟨5, [], [], [], false, [([65, 99, 116, 105, 111, 110], [97])]⟩, sc0, [(true, litX ⟨1, true, 0, [], [], []⟩), (false, xPP)]⟩
theorem polsC : polsS tp3 = ([xC], 0, 0) := by kernel_rfl
theorem pslots_pure (F : Base) (x : Pol) {va vc : Value} (hva : oneCell va = true) (hvc : oneCell vc = true) : PureV Tryz.prog F 13 #[.agg (polC x v0 va v0 vc).toArray] (.tuple #[.bool x.p.slot, .bool x.r.slot]) := by
 refine pureV_of_svc (args := [.agg (polC x v0 va v0 vc).toArray]) mixed Tryz.func13 low13 (Nat.le_of_ble_eq_true rfl) (fun w0 => ?_)
 simp only [*, fu13, ↓ZD, ZW, RO, simprocAttr]
 refine NewB.n ?_
 rintro b1 - hF1
 simp only [*, ↓ZD, ZW, RO, simprocAttr]
theorem awake_pure (F : Base) (hg : HasMarks F) (hMx : HasMx F) : PureV Tryz.prog F 6 #[] (.bool true) := by
 refine pureV_of_svc (args := []) mixed Tryz.func6 low6 (Nat.le_of_ble_eq_true rfl) (fun w0 => ?_)
 simp only [*, fu6, ↓ZD, ZW, RO, simprocAttr]
 refine CallE.mk0 (pparse_does F hg hMx tp1 (by decide)) ?_
 rw [polsA]
 rintro _ G1 ⟨v1, rfl, ⟨gs1, ⟨a1, c1, rfl, -, -, k1⟩, r1⟩, -⟩ -
 obtain ⟨g1, hg1, va1, vc1, rfl, -, -⟩ := r1.at (i := 0) rfl
 have e1 := r1.len
 replace k1 := k1 0 _ hg1
 rw [e1]
 clear r1 e1 hg1
 simp only [*, ↓ZD, ZW, RO, simprocAttr]
 refine CallE.mk0 (pparse_does F hg hMx tp2 (by decide)) ?_
 rw [polsB]
 rintro _ G2 ⟨v2, rfl, ⟨gs2, ⟨a2, c2, rfl, -, -, -⟩, r2⟩, -⟩ -
 have e2 := r2.len
 rw [e2]
 clear r2 e2
 replace k1 := k1.mono fun b o h => rdObj_app1 (Hx := G2) h
 generalize G1 ++ G2 = G at *
 simp only [*, ↓ZD, ZW, RO, simprocAttr]
 refine CallE.mk0 (pparse_does F hg hMx tp3 (by decide)) ?_
 rw [polsC]
 rintro _ G3 ⟨v3, rfl, ⟨gs3, ⟨a3, c3, rfl, -, -, k3⟩, r3⟩, -⟩ dj
 obtain ⟨g3, hg3, va3, vc3, rfl, u3, s3⟩ := r3.at (i := 0) rfl
 have e3 := r3.len
 replace k3 := k3 0 _ hg3
 rw [e3]
 clear r3 e3 hg3
 obtain ⟨au, cu, rfl, -⟩ := u3
 obtain ⟨gc, ⟨ac, cc, rfl, -⟩, rc⟩ := s3
 have ec := rc.len
 rw [ec] at k3
 clear rc ec
 replace k1 := k1.mono fun b o h => rdObj_app1 (Hx := G3) h
 replace k3 := k3.mono fun b o h => rdObj_r (Dj.iff.1 dj) h
 generalize G ++ G3 = G4 at *
 clear dj
 obtain ⟨b1, o1, rfl, l1, l1'⟩ := k1.all
 obtain ⟨b3, o3, rfl, l3, l3'⟩ := k3.all
 replace l1' := fun o h => l1' o h []
 replace l3' := fun o h => l3' o h []
 replace l3 := fun o m h => l3 o m h []
 simp only [ldV_flat] at l1' l3' l3
 clear l1
 have A0 := l1' 0 (by decide)
 have A1 := l1' 1 (by decide)
 have B0 := l3' 0 (by decide)
 have B2 := l3' 2 (by decide)
 have B3 := l3' 3 (by decide)
 have B13 := l3' 13 (by decide)
 have B20 := l3' 20 (by decide)
 have B := l3 0 21 (by decide)
 clear l1' l3' l3 k1 k3
 simp only [Nat.zero_mul, Nat.add_zero, List.getD_cons_zero, List.getD_cons_succ, List.drop_zero, xA, xC, sc0, List.map_cons, List.map_nil, List.length_cons, List.length_nil, Nat.zero_add, Nat.reduceAdd, List.take_succ_cons, List.take_zero] at A0 A1 B0 B2 B3 B13 B20 B
 simp only [*, ↓A0, ↓A1, ↓ZD, ZW, RO, simprocAttr]
 refine CallE.pureH (pslots_pure _ xC (va := .slice au 1 cu) (vc := .slice ac 2 cc) rfl rfl) ?_
 simp only [*, ↓A0, ↓A1, ↓B0, ↓B2, ↓B3, ↓B13, ↓B20, ↓B, xA, xC, List.map_cons, List.map_nil, ↓ZD, ZW, RO, simprocAttr]
 rfl
end Go.Proofs.YtnenbihkcjgddaaGreatDoor
namespace Go.Proofs.YtnenbihkcjgddaaGreatDoor
open Go
set_option linter.unusedSimpArgs false
set_option linter.unusedVariables false
set_option maxRecDepth 20000
theorem lx_laid : Rows.laid_chamberlain_lex_marks (H := Unit) = .agg (marksL.map fun m => .lit (.string m)) := by kernel_rfl
theorem lx_global : Tryz.prog.globalNamed "chamberlain/lex.marks" = some 0 := by kernel_rfl
theorem lx_type : (Tryz.prog.globals[0]?).map (·.type) = some 110 := by kernel_rfl
theorem lx_cells : Tryz.prog.cellsOf 9 = 1 := by kernel_rfl
theorem lx_cells2 : Tryz.prog.cellsOf 110 = 23 := by kernel_rfl
theorem hasMarks_of {w : World} (h : laidMetH Tryz.prog [("chamberlain/lex.marks", Rows.laid_chamberlain_lex_marks)] w) : HasMarks (fun b => w.heap[b]?) := by
 rw [MakeChecks.laidMetH_plain _ _ _ (by kernel_rfl)] at h
 obtain ⟨ps, ⟨g0, t0, cs0, f0, p0, q0, hg0, ht0, hv0, hd0, -, -⟩, -, -⟩ := h
 obtain rfl := Option.some.inj (lx_global.symm.trans hg0)
 obtain rfl := Option.some.inj (lx_type.symm.trans ht0)
 obtain ⟨xs, m1, rfl, hx1, hlen, hn3, hel⟩ := DataW.trod_array Tryz.underlying110 hd0
 rw [lx_laid] at hx1
 rw [lx_cells2] at hlen
 simp only [Prod.mk.injEq, DataW.agg.injEq] at hx1
 have key : cs0.toList = marksL.map fun x => Value.string (Eng.bs x) := by
  apply List.ext_getElem?
  intro i
  rcases Nat.lt_or_ge i 23 with hi | hi
  ·have h0 := hel i hi
   rw [lx_cells, Nat.mul_one] at h0
   obtain ⟨x, hx⟩ : ∃ x, xs[i]? = some x := ⟨_, List.getElem?_eq_getElem (by omega)⟩
   rw [hx] at h0
   obtain ⟨s, e1, e2, -⟩ := DataW.trod_string Tryz.underlying9 h0
   have h2 : (marksL.map fun m => (DataW.lit (Lit.string m) : DataW Unit))[i]? = some (.lit (.string s.data.toList)) := by
    rw [hx1.1, List.getElem?_map, hx, e2]; rfl
   have hi2 : i < marksL.length := hi
   rw [List.getElem?_map, List.getElem?_eq_getElem hi2] at h2
   simp only [Option.map_some, Option.some.injEq, DataW.lit.injEq] at h2
   rw [List.getElem?_map, List.getElem?_eq_getElem hi2, ← List.head?_drop]
   have h3 : (cs0.toList.drop i).head? = ((cs0.toList.drop i).take 1).head? := by cases cs0.toList.drop i <;> rfl
   rw [h3, e1]
   simp only [List.head?_cons, Option.map_some, Option.some.injEq, Value.string.injEq]
   have h4 : marksL[i] = s.data.toList := by simpa using h2
   rw [h4]
   cases s; rfl
  ·rw [List.getElem?_eq_none (by omega), List.getElem?_eq_none (by rw [List.length_map]; exact hi)]
 simp only [World.var?, hg0, Option.bind_some] at hv0
 cases hb : w.heap[(0 : Nat)]? with
 | none => rw [hb] at hv0; cases hv0
 | some o =>
  rw [hb] at hv0
  cases o with
  | cells c T fz =>
   simp only [Option.some.injEq] at hv0
   subst hv0
   refine ⟨T, fz, ?_⟩
   show w.heap[(0 : Nat)]? = _
   rw [hb, ← key]
  | _ => cases hv0
theorem hasM_of {w : World} (hsh : w.ShapedOpen Tryz.prog) : HasMx (fun b => w.heap[b]?) := by
 obtain ⟨m, h⟩ := Go.Proofs.cell_of_shapedOpen_int (g := 1) (zero := #[.int .i64 0]) (t := 3) hsh (of_decide_eq_true (by kernel_rfl)) (by kernel_rfl) rfl (by kernel_rfl) (by kernel_rfl) Tryz.underlying3
 unfold World.cell? at h
 split at h
 ·rename_i c T fz hb
  exact ⟨c, T, fz, m, hb, by simpa using h⟩
 ·simp at h
end Go.Proofs.YtnenbihkcjgddaaGreatDoor
namespace Go.Proofs.YtnenbihkcjgddaaGreatDoor
open Go Go.Eng
set_option maxHeartbeats 1000000
set_option linter.unusedSimpArgs false
set_option linter.unusedVariables false
set_option maxRecDepth 20000
def shiftW (k : Nat) : Except (Int × Nat) (List (Wd × Nat)) → Except (Int × Nat) (List (Wd × Nat))
 | .error (e, a) => .error (e, a + k)
 | .ok l => .ok (l.map fun x => (x.1, x.2 + k))
theorem w1_shift (k : Nat) : ∀ (n a : Nat) (s : List UInt8), w1 n (a + k) s = shiftW k (w1 n a s)
 | 0, _, _ => rfl
 | n + 1, a, s => by
  rw [w1, w1]
  split
  ·rfl
  ·split
   ·rfl
   ·rename_i w m _
    rw [show a + k + m + blankN (s.drop m) = a + m + blankN (s.drop m) + k by omega, w1_shift k n]
    cases w1 n (a + m + blankN (s.drop m)) (s.drop (m + blankN (s.drop m))) with
    | error x => rfl
    | ok l => rfl
theorem w1_fuel : ∀ (n m a : Nat) (s : List UInt8), s.length < n → n ≤ m → w1 m a s = w1 n a s
 | 0, _, _, _, h, _ => absurd h (by omega)
 | n + 1, 0, _, _, _, h => absurd h (by omega)
 | n + 1, m + 1, a, s, h, hm => by
  rw [w1, w1]
  split
  ·rfl
  ·split
   ·rfl
   ·rename_i hs _ w k hk
    have h0 := tok_len hk
    have h1 := tok_le hs hk
    rw [w1_fuel n m _ _ (by rw [List.length_drop]; omega) (by omega)]
theorem words_fuel (s : List UInt8) (n : Nat) (h : s.length < n) : words s = w1 n (blankN s) (s.drop (blankN s)) := by
 unfold words
 rcases Nat.lt_or_ge n (s.length + 1) with h1 | h1
 ·omega
 ·rw [w1_fuel (s.length + 1) n _ _ (by rw [List.length_drop]; omega) h1]
theorem blankN_all {A t : List UInt8} (h : A.all isB = true) : blankN (A ++ t) = A.length + blankN t := by
 induction A with
 | nil => simp
 | cons c A ih =>
  rw [List.all_cons, Bool.and_eq_true] at h
  rw [List.cons_append, blankN_cons, if_pos h.1, ih h.2, List.length_cons]; omega
theorem words_sp {A t : List UInt8} (h : A.all isB = true) : words (A ++ t) = shiftW A.length (words t) := by
 have hb : blankN (A ++ t) = A.length + blankN t := blankN_all h
 rw [words_fuel t ((A ++ t).length + 1) (by simp; omega), words, hb, ← w1_shift, Nat.add_comm (blankN t)]
 congr 1
 rw [← List.drop_drop, List.drop_left]
def Lexs (P : Str) (ks : List Wd) (ok : UInt8 → Bool) : Prop :=
 ∀ t l', (∀ c r, t = c :: r → ok c = true) → words t = .ok l' → ∃ l, words (P ++ t) = .ok (l ++ l'.map fun x => (x.1, x.2 + P.length)) ∧ l.map Prod.fst = ks
theorem Lexs.app {P Q : Str} {kp kq : List Wd} {okP okQ : UInt8 → Bool} (hP : Lexs P kp okP) (hQ : Lexs Q kq okQ) (hne : Q ≠ []) (h : ∀ c r, Q = c :: r → okP c = true) : Lexs (P ++ Q) (kp ++ kq) okQ := fun t l' ht hw => by
 obtain ⟨lq, h1, h2⟩ := hQ t l' ht hw
 obtain ⟨c, r, rfl⟩ := List.exists_cons_of_ne_nil hne
 obtain ⟨lp, h3, h4⟩ := hP (c :: r ++ t) _ (fun d u e => by injection e with e1 e2; subst e1; exact h _ r rfl) h1
 refine ⟨lp ++ lq.map fun x => (x.1, x.2 + P.length), ?_, ?_⟩
 ·rw [List.append_assoc, h3, List.map_append, List.map_map, List.append_assoc]
  congr 3
  apply List.map_congr_left
  intro x _
  simp only [Function.comp, List.length_append]
  congr 1; omega
 ·rw [List.map_append, h4, List.map_map, ← h2]; rfl
theorem Lexs.mono {P : Str} {ks : List Wd} {ok ok' : UInt8 → Bool} (h : Lexs P ks ok) (hk : ∀ c, ok' c = true → ok c = true) : Lexs P ks ok' := fun t l' ht hw => h t l' (fun c r e => hk c (ht c r e)) hw
abbrev any8 : UInt8 → Bool := fun _ => true
theorem Lexs.app' {P Q : Str} {kp kq : List Wd} {okQ : UInt8 → Bool} (hP : Lexs P kp any8) (hQ : Lexs Q kq okQ) : Lexs (P ++ Q) (kp ++ kq) okQ := by
 by_cases hne : Q = []
 ·subst hne
  intro t l' ht hw
  obtain ⟨lq, h1, h2⟩ := hQ t l' ht hw
  obtain ⟨lp, h3, h4⟩ := hP t l' (fun _ _ _ => rfl) hw
  have : lq = [] := by
   rw [List.nil_append, hw] at h1
   injection h1 with h1
   have := congrArg List.length h1
   rw [List.length_append, List.length_map] at this
   exact List.eq_nil_of_length_eq_zero (by omega)
  subst this
  refine ⟨lp, by simpa using h3, ?_⟩
  rw [← h2, h4]; simp
 ·exact hP.app hQ hne fun _ _ _ => rfl
theorem Lexs.sp {A : Str} (h : A.all isB = true) : Lexs A [] any8 := fun t l' _ hw => ⟨[], by rw [words_sp h, hw]; rfl, rfl⟩
theorem Lexs.nil : Lexs [] [] any8 := Lexs.sp rfl
theorem Lexs.words {P : Str} {ks : List Wd} {ok : UInt8 → Bool} (h : Lexs P ks ok) : ∃ l, Go.Proofs.YtnenbihkcjgddaaGreatDoor.words P = .ok l ∧ l.map Prod.fst = ks ++ [(0, [], 0)] := by
 obtain ⟨l, h1, h2⟩ := h [] [((0, [], 0), 0)] (fun c r e => by cases e) rfl
 rw [List.append_nil] at h1
 exact ⟨_, h1, by rw [List.map_append, h2]; rfl⟩
theorem Lexs.tok {P : Str} {w : Wd} {ok : UInt8 → Bool} {c : UInt8} {r : Str} (hP : P = c :: r) (hb : isB c = false) (hc : c ≠ 47) (ht : ∀ t, (∀ c r, t = c :: r → ok c = true) → Go.Proofs.YtnenbihkcjgddaaGreatDoor.tok (P ++ t) = .ok (w, P.length)) : Lexs P [w] ok := fun t l' hk hw => by
 have hb0 : blankN (P ++ t) = 0 := by
  rw [hP, List.cons_append, blankN_cons, if_neg (by simp [hb]), if_neg]
  show ¬ List.isPrefixOf [47, 47] (c :: (r ++ t)) = true
  simp only [List.isPrefixOf, Bool.and_eq_true, beq_iff_eq]
  exact fun h => hc h.1.symm
 refine ⟨[(w, 0)], ?_, rfl⟩
 have hne : P ++ t ≠ [] := by rw [hP]; simp
 have hw2 := words_fuel t (P ++ t).length (by rw [hP, List.length_append, List.length_cons]; omega)
 rw [hw] at hw2
 unfold Go.Proofs.YtnenbihkcjgddaaGreatDoor.words
 rw [hb0, List.drop_zero, w1, if_neg hne, ht t hk]
 simp only
 rw [List.drop_left' rfl, ← List.drop_drop, List.drop_left' rfl, show 0 + P.length + blankN t = blankN t + P.length by omega, w1_shift, ← hw2]
 rfl
theorem takeWhile_stop {p : UInt8 → Bool} {P t : Str} (h : P.all p = true) (ht : ∀ c r, t = c :: r → p c = false) : (P ++ t).takeWhile p = P := by
 induction P with
 | nil =>
  cases t with
  | nil => rfl
  | cons c r => rw [List.nil_append, List.takeWhile_cons, ht c r rfl]; rfl
 | cons c r ih =>
  rw [List.all_cons, Bool.and_eq_true] at h
  rw [List.cons_append, List.takeWhile_cons, h.1, if_pos rfl, ih h.2]
theorem nameX_app {P t : Str} (h : nameB P = true) (ht : ∀ c r, t = c :: r → isLD c = false) : nameX (P ++ t) = P := by
 cases P with
 | nil => cases h
 | cons c r =>
  rw [nameB, Bool.and_eq_true] at h
  rw [List.cons_append, nameX, if_pos h.1, takeWhile_stop h.2 ht]
theorem isL_sp {c : UInt8} (h : isL c = true) : isB c = false ∧ c ≠ 47 := by
 have : ∀ c : UInt8, isL c = true → isB c = false ∧ c ≠ 47 := by apply all_u8; decide +kernel
 exact this c h
theorem tok_of {s : Str} {w : Wd} {m : Nat} (h : oneX s = (w, m, 0)) (hm : m ≠ 0) : tok s = .ok (w, m) := by unfold tok; rw [h]; simp [hm]
theorem Lexs.name {P : Str} (h : nameB P = true) : Lexs P [(1, P, 0)] fun c => !isLD c := by
 obtain ⟨c, r, rfl⟩ : ∃ c r, P = c :: r := by
  cases P with
  | nil => cases h
  | cons c r => exact ⟨c, r, rfl⟩
 have hc : isL c = true := by rw [nameB, Bool.and_eq_true] at h; exact h.1
 obtain ⟨k1, k2⟩ := isL_sp hc
 refine .tok rfl k1 k2 fun t ht => ?_
 have hn := nameX_app (t := t) h fun c r e => by have := ht c r e; simpa using this
 refine tok_of ?_ (by simp)
 unfold oneX
 rw [show ((c :: r) ++ t).getD 0 0 = c from rfl, if_pos hc, hn]
theorem Lexs.slot {P : Str} (h : nameB P = true) : Lexs (63 :: P) [(4, P, 0)] fun c => !isLD c := by
 refine .tok rfl (by decide) (by decide) fun t ht => ?_
 have hn := nameX_app (t := t) h fun c r e => by have := ht c r e; simpa using this
 have hne : P ≠ [] := by rintro rfl; cases h
 refine tok_of ?_ (by simp)
 have f1 : ¬ isL 63 = true := by decide
 have f2 : ¬ isD 63 = true := by decide
 have f3 : ¬ (63 : UInt8) = 34 := by decide
 unfold oneX
 rw [show ((63 :: P) ++ t).getD 0 0 = 63 from rfl, if_neg f1, if_neg f2, if_neg f3, if_pos rfl, show ((63 :: P) ++ t).drop 1 = P ++ t from rfl, hn, if_neg hne]
 rfl
theorem tok_mark {c : UInt8} {s : Str} (h1 : isL c = false) (h2 : isD c = false) (h3 : c ≠ 34) (h4 : c ≠ 63) (hm : mX (c :: s) ≠ []) : tok (c :: s) = .ok ((5, mX (c :: s), 0), (mX (c :: s)).length) := by
 have hl : (mX (c :: s)).length ≠ 0 := fun h => hm (List.eq_nil_of_length_eq_zero h)
 refine tok_of ?_ hl
 have f1 : ¬ isL c = true := by simp [h1]
 have f2 : ¬ isD c = true := by simp [h2]
 unfold oneX
 rw [show (c :: s).getD 0 0 = c from rfl, if_neg f1, if_neg f2, if_neg h3, if_neg h4]
 by_cases hc : c = 64
 ·have e : mX (c :: s) = [64] := if_pos hc
  rw [if_pos hc, e]; rfl
 ·have e : mX (c :: s) = markX (c :: s) := if_neg hc
  rw [e] at hm
  rw [if_neg hc, if_neg hm, e]
theorem Lexs.mark1 {c : UInt8} (hc : onesR.contains c = true) : Lexs [c] [(5, [c], 0)] fun d => !twosL.contains [c, d] := by
 have key : ∀ c : UInt8, onesR.contains c = true → isB c = false ∧ c ≠ 47 ∧ isL c = false ∧ isD c = false ∧ c ≠ 34 ∧ c ≠ 63 := by apply all_u8; decide +kernel
 obtain ⟨k1, k2, k3, k4, k5, k6⟩ := key c hc
 refine .tok rfl k1 k2 fun t ht => ?_
 have hm : mX (c :: t) = [c] := by
  rw [mX_cons, if_neg, if_pos hc]
  cases t with
  | nil => intro h; revert h; show ¬ twosL.contains [c] = true; simp [twosL]
  | cons d r => have := ht d r rfl; simpa using this
 rw [List.singleton_append, tok_mark k3 k4 k5 k6 (by rw [hm]; simp), hm]
end Go.Proofs.YtnenbihkcjgddaaGreatDoor
namespace Go.Proofs.YtnenbihkcjgddaaGreatDoor
open Go Go.Eng
set_option maxHeartbeats 1000000
set_option linter.unusedSimpArgs false
set_option linter.unusedVariables false
set_option maxRecDepth 20000
def At (ws : Ws) (s : St) (K : List Wd) : Prop := s.e = 0 ∧ ∀ (j : Nat) (w : Wd), K[j]? = some w → (wdAt ws (s.p + j)).1 = w
section
variable {ws : Ws} {s : St} {K : List Wd} {w : Wd}
theorem At.hd (h : At ws s (w :: K)) : (wdAt ws s.p).1 = w := by have := h.2 0 w rfl; rwa [show s.p + ((0 : Nat) : Int) = s.p by omega] at this
theorem At.adv (h : At ws s (w :: K)) : At ws (adv s) K := ⟨h.1, fun j v hj => by
 have := h.2 (j + 1) v (by simpa using hj)
 rwa [show s.p + ((j + 1 : Nat) : Int) = (Go.Proofs.YtnenbihkcjgddaaGreatDoor.adv s).p + (j : Int) by show s.p + ((j + 1 : Nat) : Int) = s.p + 1 + j; omega] at this⟩
theorem At.is (h : At ws s (w :: K)) (t : Str) : isS ws s t = (((w.1 : Int) == 5 || (w.1 : Int) == 1) && w.2.1 == t) := by
 unfold isS wk wtx
 rw [h.1, h.hd]
 rfl
theorem At.wk (h : At ws s (w :: K)) : wk ws s = w.1 := by unfold Go.Proofs.YtnenbihkcjgddaaGreatDoor.wk; rw [h.hd]
theorem At.wtx (h : At ws s (w :: K)) : wtx ws s = w.2.1 := by unfold Go.Proofs.YtnenbihkcjgddaaGreatDoor.wtx; rw [h.hd]
theorem At.wn (h : At ws s (w :: K)) : wn ws s = w.2.2 := by unfold Go.Proofs.YtnenbihkcjgddaaGreatDoor.wn; rw [h.hd]
theorem At.must {k : Nat} {t : Str} {n : Int} (h : At ws s ((k, t, n) :: K)) (hk : k = 5 ∨ k = 1) : mustS ws s t = Go.Proofs.YtnenbihkcjgddaaGreatDoor.adv s := by
 unfold mustS
 rw [h.is, if_pos]
 rcases hk with rfl | rfl <;> simp
theorem At.take {k : Nat} {t : Str} {n : Int} {k' : Int} (h : At ws s ((k, t, n) :: K)) (hk : k' = k) : takeS ws s k' = (t, Go.Proofs.YtnenbihkcjgddaaGreatDoor.adv s) := by
 unfold takeS
 rw [if_pos ⟨h.1, by rw [h.wk, hk]⟩, h.wtx]
theorem At.of {l : Ws} (hl : l.map Prod.fst = K) (d : Int) : At l ⟨0, d, 0, 0⟩ K := ⟨rfl, fun j w hj => by
 subst hl
 rw [List.getElem?_map] at hj
 obtain ⟨x, hx, rfl⟩ := Option.map_eq_some_iff.1 hj
 have hlt := (List.getElem?_eq_some_iff.1 hx).1
 show (wdAt l (0 + (j : Int))).1 = x.1
 rw [Int.zero_add, wdAt_in hlt, List.getD_eq_getElem?_getD, hx]; rfl⟩
end
abbrev mk (t : Str) : Wd := (5, t, 0)
abbrev nm (t : Str) : Wd := (1, t, 0)
theorem scope_bare {ws : Ws} {s : St} {K : List Wd} {t u : Str} (h : At ws s (nm t :: mk u :: K)) (h1 : (u == [61, 61]) = false) (h2 : (u == [105, 110]) = false) (h3 : (u == [105, 115]) = false) : scopeP ws s t = (sc0, adv s) := by
 unfold scopeP
 dsimp only
 rw [h.must (.inr rfl)]
 have ha := h.adv
 rw [ha.is, ha.is, ha.is, h1, h2, h3]
 rfl
theorem action_bare {ws : Ws} {s : St} {K : List Wd} {u : Str} (h : At ws s (nm actN :: mk u :: K)) (h1 : (u == [61, 61]) = false) (h2 : (u == [105, 110]) = false) : actionP ws s = (sc0, adv s) := by
 unfold actionP
 dsimp only
 rw [h.must (.inr rfl)]
 have ha := h.adv
 rw [ha.is, ha.is, h1, h2]
 rfl
theorem noid_go {ws : Ws} {s : St} {K : List Wd} {w : Wd} (n : Int) (h : At ws s (w :: K)) (hw : (w.2.1 == [64]) = false) : policyP ws n s = permB ws ([112, 111, 108, 105, 99, 121] ++ shows n) s := by
 rw [policyP_eq, h.is, hw, Bool.and_false, if_neg (by simp)]
end Go.Proofs.YtnenbihkcjgddaaGreatDoor
namespace Go.Proofs.YtnenbihkcjgddaaGreatDoor
open Go Go.Eng
set_option maxHeartbeats 1000000
set_option linter.unusedSimpArgs false
set_option linter.unusedVariables false
set_option maxRecDepth 20000
theorem takeWhile_nl {p : UInt8 → Bool} (hp : p 10 = false) (t : Str) : ∀ r : Str, (r ++ 10 :: t).takeWhile p = r.takeWhile p
 | [] => by rw [List.nil_append, List.takeWhile_cons, hp]; rfl
 | c :: r => by
  rw [List.cons_append, List.takeWhile_cons, List.takeWhile_cons, takeWhile_nl hp t r]
theorem pre_nl (t : Str) : ∀ r : Str, Go.Lib.hasPrefix (r ++ 10 :: t) [47, 47] = Go.Lib.hasPrefix r [47, 47]
 | [] => by show List.isPrefixOf [47, 47] (10 :: t) = List.isPrefixOf [47, 47] []; rfl
 | [c] => by
  show List.isPrefixOf [47, 47] (c :: 10 :: t) = List.isPrefixOf [47, 47] [c]
  simp [List.isPrefixOf]
 | c :: d :: r => rfl
theorem blankN_nl (t : Str) : ∀ (n : Nat) (r : Str), r.length ≤ n → (blankN r = r.length → blankN (r ++ 10 :: t) = r.length + 1 + blankN t) ∧ (blankN r ≠ r.length → blankN (r ++ 10 :: t) = blankN r)
 | n, [], _ => ⟨fun _ => by rw [List.nil_append, blankN_cons, if_pos (by decide), List.length_nil]; omega, fun h => absurd rfl h⟩
 | 0, _ :: _, h => absurd h (by simp)
 | n + 1, c :: r, h => by
  rw [List.length_cons] at h
  rw [List.cons_append, blankN_cons, blankN_cons, List.length_cons]
  by_cases hb : isB c = true
  ·obtain ⟨h1, h2⟩ := blankN_nl t n r (by omega)
   rw [if_pos hb, if_pos hb]
   exact ⟨fun h => by rw [h1 (by omega)]; omega, fun h => by rw [h2 (by omega)]⟩
  ·rw [if_neg hb, if_neg hb, ← List.cons_append, pre_nl]
   by_cases hp : Go.Lib.hasPrefix (c :: r) [47, 47] = true
   ·rw [if_pos hp, if_pos hp, takeWhile_nl (by decide)]
    have hpos := lf_pos hp
    have hle := takeWhile_le (fun c => ((c.toNat : Int) != 10)) (c :: r)
    generalize ((c :: r).takeWhile fun c => ((c.toNat : Int) != 10)).length = m at *
    rw [List.drop_append_of_le_length hle]
    rw [List.length_cons] at hle
    have hd : ((c :: r).drop m).length = r.length + 1 - m := by rw [List.length_drop, List.length_cons]
    obtain ⟨h1, h2⟩ := blankN_nl t n ((c :: r).drop m) (by omega)
    exact ⟨fun h => by rw [h1 (by omega)]; omega, fun h => by rw [h2 (by omega)]⟩
   ·rw [if_neg hp, if_neg hp]
    exact ⟨fun h => by omega, fun _ => rfl⟩
theorem clo_app {t : Str} : ∀ {r : Str} {o : Bool} {k : Nat}, clo o r = some k → clo o (r ++ t) = some k
 | [], o, k, h => by cases h
 | c :: r, o, k, h => by
  rw [clo] at h
  rw [List.cons_append, clo]
  split at h
  ·rw [if_pos (by assumption)]; exact h
  ·rw [if_neg (by assumption)]
   obtain ⟨j, hj, rfl⟩ := Option.map_eq_some_iff.1 h
   rw [clo_app hj]; rfl
theorem nameX_nl (t r : Str) : nameX (r ++ 10 :: t) = nameX r := by
 cases r with
 | nil =>
  have h : ¬ isL 10 = true := by decide
  show (if isL 10 = true then 10 :: t.takeWhile isLD else []) = []
  rw [if_neg h]
 | cons c r => rw [List.cons_append, nameX, nameX, takeWhile_nl (by decide)]
theorem mX_nl (c : UInt8) (r t : Str) : mX (c :: (r ++ 10 :: t)) = mX (c :: r) := by
 rw [mX_cons, mX_cons]
 cases r with
 | nil =>
  have h1 : ¬ twosL.contains ((c :: ([] ++ 10 :: t)).take 2) = true := by
   rw [show (c :: ([] ++ 10 :: t)).take 2 = [c, 10] from rfl]; simp [twosL]
  have h2 : ¬ twosL.contains (([c] : Str).take 2) = true := by
   rw [show ([c] : Str).take 2 = [c] from rfl]; simp [twosL]
  rw [if_neg h1, if_neg h2]
 | cons d r => rfl
theorem tok_nl {s t : Str} {w : Wd} {m : Nat} (hs : s ≠ []) (h : tok s = .ok (w, m)) : tok (s ++ 10 :: t) = .ok (w, m) := by
 obtain ⟨c, r, rfl⟩ := List.exists_cons_of_ne_nil hs
 by_cases hl : isL c = true
 ·have e : oneX (c :: r ++ 10 :: t) = oneX (c :: r) := by
   unfold oneX
   rw [show (c :: r ++ 10 :: t).getD 0 0 = c from rfl, show (c :: r).getD 0 0 = c from rfl, if_pos hl, if_pos hl, nameX_nl]
  unfold tok at h ⊢; rw [e]; exact h
 by_cases hd : isD c = true
 ·have e : oneX (c :: r ++ 10 :: t) = oneX (c :: r) := by
   unfold oneX
   rw [show (c :: r ++ 10 :: t).getD 0 0 = c from rfl, show (c :: r).getD 0 0 = c from rfl, if_neg hl, if_neg hl, if_pos hd, if_pos hd, takeWhile_nl (by decide)]
  unfold tok at h ⊢; rw [e]; exact h
 by_cases h3 : c = 34
 ·have e0 : oneX (c :: r) = ((3, (qX (c :: r)).1, 0), (qX (c :: r)).2, 0) := by
   unfold oneX
   rw [show (c :: r).getD 0 0 = c from rfl, if_neg hl, if_neg hd, if_pos h3]
  have hq : qX (c :: r ++ 10 :: t) = qX (c :: r) := by
   have hne : (qX (c :: r)).2 ≠ 0 := by
    intro h0
    unfold tok at h
    rw [e0, h0] at h
    simp at h
   unfold qX at hne ⊢
   rw [show (c :: r ++ 10 :: t).drop 1 = r ++ 10 :: t from rfl, show (c :: r).drop 1 = r from rfl] at *
   cases hc : clo false r with
   | none => rw [hc] at hne; exact absurd rfl hne
   | some k =>
    have hk := clo_le _ _ _ hc
    rw [clo_app hc]
    simp only
    rw [List.take_append_of_le_length (by rw [List.length_cons]; omega)]
  have e : oneX (c :: r ++ 10 :: t) = oneX (c :: r) := by
   rw [e0]
   unfold oneX
   rw [show (c :: r ++ 10 :: t).getD 0 0 = c from rfl, if_neg hl, if_neg hd, if_pos h3, hq]
  unfold tok at h ⊢; rw [e]; exact h
 by_cases h4 : c = 63
 ·have e : oneX (c :: r ++ 10 :: t) = oneX (c :: r) := by
   unfold oneX
   rw [show (c :: r ++ 10 :: t).getD 0 0 = c from rfl, show (c :: r).getD 0 0 = c from rfl, if_neg hl, if_neg hl, if_neg hd, if_neg hd, if_neg h3, if_neg h3, if_pos h4, if_pos h4, show (c :: r ++ 10 :: t).drop 1 = r ++ 10 :: t from rfl, nameX_nl]
   rfl
  unfold tok at h ⊢; rw [e]; exact h
 by_cases h5 : c = 64
 ·have e : oneX (c :: r ++ 10 :: t) = oneX (c :: r) := by
   unfold oneX
   rw [show (c :: r ++ 10 :: t).getD 0 0 = c from rfl, show (c :: r).getD 0 0 = c from rfl, if_neg hl, if_neg hl, if_neg hd, if_neg hd, if_neg h3, if_neg h3, if_neg h4, if_neg h4, if_pos h5, if_pos h5]
  unfold tok at h ⊢; rw [e]; exact h
 ·have e1 : markX (c :: r ++ 10 :: t) = markX (c :: r) := by
   have := mX_nl c r t
   unfold mX at this
   rwa [show (c :: (r ++ 10 :: t)).getD 0 0 = c from rfl, show (c :: r).getD 0 0 = c from rfl, if_neg h5, if_neg h5] at this
  have e : oneX (c :: r ++ 10 :: t) = oneX (c :: r) := by
   unfold oneX
   rw [show (c :: r ++ 10 :: t).getD 0 0 = c from rfl, show (c :: r).getD 0 0 = c from rfl, if_neg hl, if_neg hl, if_neg hd, if_neg hd, if_neg h3, if_neg h3, if_neg h4, if_neg h4, if_neg h5, if_neg h5, e1]
  unfold tok at h ⊢; rw [e]; exact h
theorem w1_nl {t : Str} {l' : List (Wd × Nat)} (hw : words t = .ok l') : ∀ (n a : Nat) (s : Str) (l : List (Wd × Nat)) (N : Nat), s.length < n → s ≠ [] → w1 n a s = .ok l → (s ++ 10 :: t).length < N →
  w1 N a (s ++ 10 :: t) = .ok (l.dropLast ++ l'.map fun x => (x.1, x.2 + (a + s.length + 1)))
 | 0, a, s, l, N, hn, _, _, _ => absurd hn (by omega)
 | n + 1, a, s, l, 0, _, _, _, hN => absurd hN (by omega)
 | n + 1, a, s, l, N + 1, hn, hs, h, hN => by
  rw [w1, if_neg hs] at h
  have hs2 : s ++ 10 :: t ≠ [] := by simp
  rw [w1, if_neg hs2]
  rw [List.length_append, List.length_cons] at hN
  have hpos := List.length_pos_iff.2 hs
  split at h
  ·cases h
  ·rename_i w m hk
   rw [tok_nl hs hk]
   simp only
   have hm1 := tok_len hk
   have hm2 := tok_le hs hk
   rw [List.drop_append_of_le_length hm2, ← List.drop_drop, List.drop_append_of_le_length hm2]
   rw [← List.drop_drop] at h
   have hld : (s.drop m).length = s.length - m := List.length_drop
   obtain ⟨b1, b2⟩ := blankN_nl t _ (s.drop m) (Nat.le_refl _)
   by_cases hb : blankN (s.drop m) = (s.drop m).length
   ·rw [b1 hb]
    rw [hb, List.drop_length] at h
    obtain ⟨n, rfl⟩ : ∃ k, n = k + 1 := ⟨n - 1, by omega⟩
    rw [w1, if_pos rfl] at h
    simp only [Except.ok.injEq] at h
    subst h
    have e : (s.drop m ++ 10 :: t).drop ((s.drop m).length + 1 + blankN t) = t.drop (blankN t) := by
     rw [show (s.drop m).length + 1 + blankN t = (s.drop m).length + (1 + blankN t) by omega, ← List.drop_drop, List.drop_left' rfl, Nat.add_comm 1, List.drop_succ_cons]
    rw [e, show a + m + ((s.drop m).length + 1 + blankN t) = blankN t + (a + s.length + 1) by omega, w1_shift, ← words_fuel t N (by omega), hw]
    rfl
   ·rw [b2 hb]
    have hble := blankN_le (s.drop m)
    rw [List.drop_append_of_le_length hble]
    split at h
    ·cases h
    ·rename_i l2 hl2
     simp only [Except.ok.injEq] at h
     subst h
     have hdl : ((s.drop m).drop (blankN (s.drop m))).length = s.length - m - blankN (s.drop m) := by rw [List.length_drop, hld]
     have hne2 : (s.drop m).drop (blankN (s.drop m)) ≠ [] := fun e0 => by
      rw [e0, List.length_nil] at hdl; omega
     rw [w1_nl hw n _ _ l2 N (by omega) hne2 hl2 (by rw [List.length_append, List.length_cons]; omega)]
     simp only
     have hl2ne : l2 ≠ [] := by
      rintro rfl
      obtain ⟨n, rfl⟩ : ∃ k, n = k + 1 := ⟨n - 1, by omega⟩
      rw [w1, if_neg hne2] at hl2
      split at hl2
      ·cases hl2
      ·split at hl2 <;> cases hl2
     obtain ⟨x, l3, rfl⟩ := List.exists_cons_of_ne_nil hl2ne
     rw [List.dropLast_cons_cons, List.cons_append, show a + m + blankN (s.drop m) + ((s.drop m).drop (blankN (s.drop m))).length + 1 = a + s.length + 1 by omega]
theorem Lexs.nl {s : Str} {l : List (Wd × Nat)} {ks : List Wd} (h : Go.Proofs.YtnenbihkcjgddaaGreatDoor.words s = .ok l) (hk : l.map Prod.fst = ks ++ [(0, [], 0)]) : Lexs (s ++ [10]) ks any8 := fun t l' _ hw => by
 have e0 : s ++ [10] ++ t = s ++ 10 :: t := by simp
 have el : (s ++ [10]).length = s.length + 1 := by simp
 rw [e0, el]
 obtain ⟨b1, b2⟩ := blankN_nl t _ s (Nat.le_refl _)
 by_cases hb : blankN s = s.length
 ·unfold Go.Proofs.YtnenbihkcjgddaaGreatDoor.words at h
  rw [hb, List.drop_length, w1, if_pos rfl] at h
  simp only [Except.ok.injEq] at h
  subst h
  have hks : ks = [] := by
   have := congrArg List.length hk
   simp at this
   exact this
  subst hks
  refine ⟨[], ?_, rfl⟩
  rw [words_fuel (s ++ 10 :: t) ((s ++ 10 :: t).length + 1) (by omega), b1 hb, show s.length + 1 + blankN t = s.length + (1 + blankN t) by omega, ← List.drop_drop, List.drop_left' rfl, Nat.add_comm 1, List.drop_succ_cons,
   show s.length + (blankN t + 1) = blankN t + (s.length + 1) by omega, w1_shift, ← words_fuel t _ (by rw [List.length_append, List.length_cons]; omega), hw]
  rfl
 ·have hble := blankN_le s
  have hdl : (s.drop (blankN s)).length = s.length - blankN s := List.length_drop
  have hne : s.drop (blankN s) ≠ [] := fun e => by rw [e, List.length_nil] at hdl; omega
  unfold Go.Proofs.YtnenbihkcjgddaaGreatDoor.words at h
  have := w1_nl hw _ _ _ l ((s ++ 10 :: t).length + 1) (by rw [hdl]; omega) hne h (by rw [List.length_append, List.length_append]; omega)
  refine ⟨l.dropLast, ?_, ?_⟩
  ·rw [words_fuel (s ++ 10 :: t) ((s ++ 10 :: t).length + 1) (by omega), b2 hb, List.drop_append_of_le_length hble, this, show blankN s + (s.drop (blankN s)).length + 1 = s.length + 1 by omega]
  ·rw [List.map_dropLast, hk, List.dropLast_concat]
end Go.Proofs.YtnenbihkcjgddaaGreatDoor
namespace Go.Proofs.YtnenbihkcjgddaaGreatDoor
open Go Go.Eng
set_option maxHeartbeats 1000000
set_option linter.unusedSimpArgs false
set_option linter.unusedVariables false
set_option linter.unusedSectionVars false
set_option maxRecDepth 20000
def closL : List Str := [[41], [93], [125], [44], [59]]
def Quiet (w : Wd) : Prop := w.1 = 0 ∨ (w.1 = 5 ∧ w.2.1 ∈ closL)
structure Sm (ws ws' : Ws) (d m : Int) : Prop where
 a : ∀ j : Int, 0 ≤ j → j < m → (wdAt ws' (j + d)).1 = (wdAt ws j).1
 b : Quiet (wdAt ws m).1
 c : Quiet (wdAt ws' (m + d)).1
 d : 0 ≤ d
def sh (d : Int) (s : St) : St := ⟨s.p + d, s.deep, s.e, s.bad⟩
theorem sh_adv (d : Int) (s : St) : sh d (adv s) = adv (sh d s) := by unfold sh adv; congr 1; show s.p + 1 + d = s.p + d + 1; omega
section
variable {ws ws' : Ws} {d m : Int} (S : Sm ws ws' d m)
include S
theorem Sm.wk {s : St} (h0 : 0 ≤ s.p) (h : s.p < m) : wk ws' (sh d s) = wk ws s := by unfold Go.Proofs.YtnenbihkcjgddaaGreatDoor.wk; rw [show (sh d s).p = s.p + d from rfl, S.a _ h0 h]
theorem Sm.wtx {s : St} (h0 : 0 ≤ s.p) (h : s.p < m) : wtx ws' (sh d s) = wtx ws s := by unfold Go.Proofs.YtnenbihkcjgddaaGreatDoor.wtx; rw [show (sh d s).p = s.p + d from rfl, S.a _ h0 h]
theorem Sm.wn {s : St} (h0 : 0 ≤ s.p) (h : s.p < m) : wn ws' (sh d s) = wn ws s := by unfold Go.Proofs.YtnenbihkcjgddaaGreatDoor.wn; rw [show (sh d s).p = s.p + d from rfl, S.a _ h0 h]
theorem Sm.is {s : St} (h0 : 0 ≤ s.p) (h : s.p < m) (t : Str) : isS ws' (sh d s) t = isS ws s t := by
 unfold isS; rw [S.wk h0 h, S.wtx h0 h]; rfl
omit S in
theorem quiet_is {ws : Ws} {s : St} {t : Str} (h : Quiet (wdAt ws s.p).1) (ht : t ∉ closL) : isS ws s t = false := by
 unfold isS Go.Proofs.YtnenbihkcjgddaaGreatDoor.wk Go.Proofs.YtnenbihkcjgddaaGreatDoor.wtx
 rcases h with h | ⟨h1, h2⟩
 ·rw [h]; simp
 ·rw [Bool.and_eq_false_iff]
  refine .inr ?_
  rw [beq_eq_false_iff_ne]
  intro e
  rw [e] at h2; exact ht h2
theorem Sm.op {s : St} (h0 : 0 ≤ s.p) (h : s.p ≤ m) (t : Str) (ht : t ∉ closL) : isS ws' (sh d s) t = isS ws s t := by
 by_cases hm : s.p < m
 ·exact S.is h0 hm t
 ·have e : s.p = m := by omega
  rw [quiet_is (s := s) (by rw [e]; exact S.b) ht, quiet_is (s := sh d s) (by rw [show (sh d s).p = s.p + d from rfl, e]; exact S.c) ht]
theorem Sm.must {s : St} {t : Str} (h0 : 0 ≤ s.p) (he : (mustS ws s t).e = 0) (h : (mustS ws s t).p ≤ m) : mustS ws' (sh d s) t = sh d (mustS ws s t) := by
 unfold mustS at *
 by_cases hi : isS ws s t = true
 ·rw [if_pos hi] at he h ⊢
  have hp : s.p < m := by have : (Go.Proofs.YtnenbihkcjgddaaGreatDoor.adv s).p = s.p + 1 := rfl; omega
  rw [if_pos (by rw [S.is h0 hp]; exact hi), sh_adv]
 ·rw [if_neg hi] at he; exact absurd he (failS_e (by decide))
theorem Sm.take {s : St} {k : Int} (h0 : 0 ≤ s.p) (he : (takeS ws s k).2.e = 0) (h : (takeS ws s k).2.p ≤ m) : takeS ws' (sh d s) k = ((takeS ws s k).1, sh d (takeS ws s k).2) := by
 unfold takeS at *
 by_cases hi : s.e = 0 ∧ Go.Proofs.YtnenbihkcjgddaaGreatDoor.wk ws s = k
 ·rw [if_pos hi] at he h ⊢
  have hp : s.p < m := by
   have h' : s.p + 1 ≤ m := h
   omega
  rw [if_pos ⟨hi.1, by rw [S.wk h0 hp]; exact hi.2⟩, S.wtx h0 hp, sh_adv]
 ·rw [if_neg hi] at he; exact absurd he (failS_e (by decide))
omit S in
theorem wd_kind1 {ws : Ws} {j : Nat} : (¬ j + 1 < ws.length ∨ ((ws.getD (j + 1) ((0, [], 0), 0)).1.1 : Int) ≠ 1) ↔ ((wdAt ws ((j : Int) + 1)).1.1 : Int) ≠ 1 := by
 by_cases h : j + 1 < ws.length
 ·rw [show (j : Int) + 1 = ((j + 1 : Nat) : Int) by omega, wdAt_in h]
  exact ⟨fun h' => h'.resolve_left (fun hh => hh h), .inr⟩
 ·rw [wdAt_out (by omega)]
  exact ⟨fun _ => by show ((0 : Nat) : Int) ≠ 1; decide, fun _ => .inl h⟩
omit S in
theorem pathT_stop {ws : Ws} {q : St} {o : Str} (he : q.e = 0) (h0 : 0 ≤ q.p) (h : ¬ (isS ws q [58, 58] = true ∧ ((wdAt ws (q.p + 1)).1.1 : Int) = 1)) : Go.Proofs.YtnenbihkcjgddaaGreatDoor.pathT ws (o, q) = (o, q) := by
 obtain ⟨j, hj⟩ : ∃ j : Nat, q.p = j := ⟨q.p.toNat, by omega⟩
 refine pathT_no he hj ?_
 cases hi : isS ws q [58, 58] with
 | false => exact .inl rfl
 | true =>
  refine .inr (wd_kind1.2 ?_)
  rw [← hj]
  exact fun hk => h ⟨hi, hk⟩
omit S in
theorem pathT_on {ws : Ws} {q : St} {o : Str} (he : q.e = 0) (h0 : 0 ≤ q.p) (h : isS ws q [58, 58] = true ∧ ((wdAt ws (q.p + 1)).1.1 : Int) = 1) : Go.Proofs.YtnenbihkcjgddaaGreatDoor.pathT ws (o, q) = Go.Proofs.YtnenbihkcjgddaaGreatDoor.pathT ws (o ++ [58, 58] ++ Go.Proofs.YtnenbihkcjgddaaGreatDoor.wtx ws (adv q), adv (adv q)) := by
 obtain ⟨j, hj⟩ : ∃ j : Nat, q.p = j := ⟨q.p.toNat, by omega⟩
 have hk : ¬ (¬ j + 1 < ws.length ∨ ((ws.getD (j + 1) ((0, [], 0), 0)).1.1 : Int) ≠ 1) := by
  rw [wd_kind1, ← hj]; exact fun hh => hh h.2
 have h1 : j + 1 < ws.length := by
  by_cases hl : j + 1 < ws.length
  ·exact hl
  ·exact absurd (.inl hl) hk
 have h2 : ((ws.getD (j + 1) ((0, [], 0), 0)).1.1 : Int) = 1 := by
  by_cases hl : ((ws.getD (j + 1) ((0, [], 0), 0)).1.1 : Int) = 1
  ·exact hl
  ·exact absurd (.inr hl) hk
 exact (pathT_yes he hj h.1 h1 h2).2
omit S in
theorem pathT_ge {ws : Ws} {q : St} {o : Str} : q.p ≤ (Go.Proofs.YtnenbihkcjgddaaGreatDoor.pathT ws (o, q)).2.p := by
 unfold Go.Proofs.YtnenbihkcjgddaaGreatDoor.pathT
 split
 ·show q.p ≤ q.p + ((pathL (ws.drop q.p.toNat)).2 : Nat); omega
 ·exact Int.le_refl _
theorem Sm.pathT : ∀ (n : Nat) (o : Str) (q : St), (m - q.p).toNat < n → q.e = 0 → 0 ≤ q.p → (Go.Proofs.YtnenbihkcjgddaaGreatDoor.pathT ws (o, q)).2.p ≤ m → Go.Proofs.YtnenbihkcjgddaaGreatDoor.pathT ws' (o, sh d q) = ((Go.Proofs.YtnenbihkcjgddaaGreatDoor.pathT ws (o, q)).1, sh d (Go.Proofs.YtnenbihkcjgddaaGreatDoor.pathT ws (o, q)).2) := by
 intro n
 induction n with
 | zero => intro o q hn; exact absurd hn (Nat.not_lt_zero _)
 | succ n ih =>
  intro o q hn he h0 h
  have hd := S.d
  by_cases hy : isS ws q [58, 58] = true ∧ ((wdAt ws (q.p + 1)).1.1 : Int) = 1
  ·rw [pathT_on he h0 hy] at h ⊢
   have hge := pathT_ge (ws := ws) (q := adv (adv q)) (o := o ++ [58, 58] ++ Go.Proofs.YtnenbihkcjgddaaGreatDoor.wtx ws (adv q))
   have e1 : (adv (adv q)).p = q.p + 1 + 1 := rfl
   have h1 : isS ws' (sh d q) [58, 58] = true := by rw [S.is h0 (by omega)]; exact hy.1
   have h2 : ((wdAt ws' ((sh d q).p + 1)).1.1 : Int) = 1 := by
    rw [show (sh d q).p + 1 = q.p + 1 + d by show q.p + d + 1 = _; omega, S.a (q.p + 1) (by omega) (by omega)]; exact hy.2
   rw [pathT_on (q := sh d q) he (by show 0 ≤ q.p + d; omega) ⟨h1, h2⟩, ← sh_adv, ← sh_adv, S.wtx (by show 0 ≤ q.p + 1; omega) (by show q.p + 1 < m; omega)]
   exact ih _ (adv (adv q)) (by omega) he (by omega) h
  ·rw [pathT_stop he h0 hy] at h ⊢
   have h : q.p ≤ m := h
   refine pathT_stop (q := sh d q) he (by show 0 ≤ q.p + d; omega) ?_
   rintro ⟨h1, h2⟩
   rw [S.op h0 h _ (by decide)] at h1
   have hlt : q.p < m := by
    by_cases e : q.p = m
    ·rw [quiet_is (by rw [e]; exact S.b) (by decide)] at h1; cases h1
    ·omega
   rw [show (sh d q).p + 1 = q.p + 1 + d by show q.p + d + 1 = _; omega] at h2
   by_cases e : q.p + 1 = m
   ·rw [e] at h2
    rcases S.c with k | ⟨k, -⟩ <;> rw [k] at h2 <;> revert h2 <;> decide
   ·rw [S.a (q.p + 1) (by omega) (by omega)] at h2
    exact hy ⟨h1, h2⟩
theorem Sm.path {s : St} (h0 : 0 ≤ s.p) (he : (pathS ws s).2.e = 0) (h : (pathS ws s).2.p ≤ m) : pathS ws' (sh d s) = ((pathS ws s).1, sh d (pathS ws s).2) := by
 have hf := Fwd.path (ws := ws) (s := s) he
 unfold pathS at he h ⊢
 have hk : (takeS ws (if Go.Proofs.YtnenbihkcjgddaaGreatDoor.wtx ws s ∈ ownL then failS ws s 10 else s) 1).2.e = 0 := by
  unfold Go.Proofs.YtnenbihkcjgddaaGreatDoor.pathT at he
  by_cases h : (takeS ws (if Go.Proofs.YtnenbihkcjgddaaGreatDoor.wtx ws s ∈ ownL then failS ws s 10 else s) 1).2.e = 0
  ·exact h
  ·rw [if_neg h] at he; exact he
 have hpm : s.p < m := by
  have := hf.2.1
  have h : (pathS ws s).2.p ≤ m := h
  omega
 have ho : Go.Proofs.YtnenbihkcjgddaaGreatDoor.wtx ws s ∉ ownL := fun ho => by
  rw [if_pos ho] at hk
  exact absurd (take_e hk) (failS_e (by decide))
 rw [if_neg ho] at hk he h ⊢
 rw [if_neg (by rw [S.wtx h0 hpm]; exact ho)]
 have hge := pathT_ge (ws := ws) (q := (takeS ws s 1).2) (o := (takeS ws s 1).1)
 have h : (Go.Proofs.YtnenbihkcjgddaaGreatDoor.pathT ws ((takeS ws s 1).1, (takeS ws s 1).2)).2.p ≤ m := h
 rw [S.take h0 hk (by omega)]
 have ht := (Fwd.take hk).2.1
 exact S.pathT _ _ _ (Nat.lt_succ_self _) hk (by omega) h
theorem Sm.uid {s : St} (h0 : 0 ≤ s.p) (he : (uidS ws s).2.e = 0) (h : (uidS ws s).2.p ≤ m) : uidS ws' (sh d s) = ((uidS ws s).1, sh d (uidS ws s).2) := by
 unfold uidS at he h ⊢
 dsimp only at he h ⊢
 have e2 := take_e he
 have f2 := (Fwd.take he).2.1
 have e1 := must_e e2
 have f1 := (Fwd.must e2).2.1
 have f0 := (Fwd.path e1).2.1
 rw [S.path h0 e1 (by omega)]
 dsimp only
 rw [S.must (by omega) e2 (by omega), S.take (by omega) he h]
theorem Sm.head {op : Int} {ns : List Str} {s : St} (h0 : 0 ≤ s.p) (he : (headS ws op ns s).2.e = 0) (h : (headS ws op ns s).2.p ≤ m) : headS ws' op ns (sh d s) = ((headS ws op ns s).1, sh d (headS ws op ns s).2) := by
 unfold headS at he h ⊢
 by_cases ho : op = 20
 ·rw [if_pos ho] at he h ⊢
  rw [if_pos ho]
  dsimp only at he h ⊢
  have e1 := must_e he
  have f1 := (Fwd.must he).2.1
  have f0 := (Fwd.take e1).2.1
  rw [S.wk h0 (by omega), S.take h0 e1 (by omega)]
  dsimp only
  rw [S.must (by omega) he h]
 ·rw [if_neg ho] at he h ⊢
  rw [if_neg ho]
theorem Sm.name {s : St} (h0 : 0 ≤ s.p) (hk : Go.Proofs.YtnenbihkcjgddaaGreatDoor.wk ws s = 1) (he : (nameG ws s).2.e = 0) (h : (nameG ws s).2.p ≤ m) : nameG ws' (sh d s) = ((nameG ws s).1, sh d (nameG ws s).2) := by
 have hpm : s.p < m := by
  have hf := (Fwd.name (ws := ws) (s := s) he).2.1
  by_cases e : s.p = m
  ·rcases S.b with k | ⟨k, -⟩ <;> (rw [← e] at k; unfold Go.Proofs.YtnenbihkcjgddaaGreatDoor.wk at hk; rw [k] at hk; exact absurd hk (by decide))
  ·omega
 have ew := S.wtx h0 hpm
 have en : (((wdAt ws' ((sh d s).p + 1)).1.1 : Int) = 5 ∧ (wdAt ws' ((sh d s).p + 1)).1.2.1 = [58, 58]) ↔ (((wdAt ws (s.p + 1)).1.1 : Int) = 5 ∧ (wdAt ws (s.p + 1)).1.2.1 = [58, 58]) := by
  rw [show (sh d s).p + 1 = s.p + 1 + d by show s.p + d + 1 = _; omega]
  by_cases e : s.p + 1 < m
  ·rw [S.a _ (by omega) e]
  ·have e : s.p + 1 = m := by omega
   rw [e]
   have key : ∀ w : Wd, Quiet w → ¬ ((w.1 : Int) = 5 ∧ w.2.1 = [58, 58]) := by
    rintro w (k | ⟨-, k⟩) ⟨q1, q2⟩
    ·rw [k] at q1; revert q1; decide
    ·rw [q2] at k; revert k; decide
   exact ⟨fun q => absurd q (key _ S.c), fun q => absurd q (key _ S.b)⟩
 unfold nameG at he h ⊢
 rw [ew]
 by_cases c1 : Go.Proofs.YtnenbihkcjgddaaGreatDoor.wtx ws s = [116, 114, 117, 101] ∨ Go.Proofs.YtnenbihkcjgddaaGreatDoor.wtx ws s = [102, 97, 108, 115, 101]
 ·rw [if_pos c1, if_pos c1, sh_adv]
 rw [if_neg c1] at he h ⊢
 rw [if_neg c1]
 by_cases c2 : ((wdAt ws (s.p + 1)).1.1 : Int) = 5 ∧ (wdAt ws (s.p + 1)).1.2.1 = [58, 58]
 ·rw [if_pos c2] at he h ⊢
  rw [if_pos (en.2 c2), S.uid h0 he h]
 rw [if_neg c2] at he h ⊢
 rw [if_neg (fun q => c2 (en.1 q))]
 by_cases c3 : Go.Proofs.YtnenbihkcjgddaaGreatDoor.wtx ws s ∈ varL
 ·rw [if_pos c3, if_pos c3, sh_adv]
 ·rw [if_neg c3] at he; exact absurd he (failS_e (by decide))
end
def strN : NT → Bool
 | .rows _ _ => false
 | .mems _ => false
 | _ => true
def StrG (g : NT → St → Option (Ex' × St)) : Prop := ∀ nt s y, strN nt = true → g nt s = some y → Fwd 1 s y.2
section
variable {ws : Ws} {g : NT → St → Option (Ex' × St)} (hs : StrG g) (hg : GoesOn g)
include hs hg
theorem str_prim {s : St} {y : Ex' × St} (h : primG ws g s = some y) : Fwd 1 s y.2 := by
 unfold primG at h
 split at h
 ·simp only [Option.some.injEq] at h; subst h; exact Fwd.adv
 split at h
 ·simp only [Option.some.injEq] at h; subst h; exact Fwd.adv
 split at h
 ·split at h
  ·simp only [Option.some.injEq] at h; subst h; exact Fwd.adv
  ·simp only [Option.some.injEq] at h; subst h; exact Fwd.fail (by decide) 1
 split at h
 ·simp only [Option.some.injEq] at h; subst h
  unfold nameG
  split
  ·exact Fwd.adv
  split
  ·exact Fwd.uid
  split
  ·exact Fwd.adv
  ·exact Fwd.fail (by decide) 1
 split at h
 ·obtain ⟨b, h2, rfl⟩ := map_some' h
  exact ((Fwd.adv.trans (hg _ _ b h2)).trans Fwd.must).le (by decide)
 split at h
 ·exact (Fwd.adv.trans (goes_items hg h)).le (by decide)
 split at h
 ·exact (Fwd.adv.trans (goes_items hg h)).le (by decide)
 ·simp only [Option.some.injEq] at h; subst h; exact Fwd.fail (by decide) 1
theorem str_step {nt : NT} {s : St} {y : Ex' × St} (hn : strN nt = true) (h : stepG ws g nt s = some y) : Fwd 1 s y.2 := by
 cases nt with
 | expr =>
  simp only [stepG] at h
  split at h
  ·simp only [Option.some.injEq] at h; subst h; exact Fwd.fail (by decide) 1
  ·obtain ⟨b, h2, rfl⟩ := map_some' h
   have hb : Fwd 1 (inn s) b.2 := by
    unfold choiceG at h2
    split at h2
    ·obtain ⟨a, k1, h3⟩ := bind_some h2
     obtain ⟨c, k2, h4⟩ := bind_some h3
     obtain ⟨e, k3, rfl⟩ := map_some' h4
     exact (((((Fwd.adv.trans (hg _ _ _ k1)).trans Fwd.must).trans (hg _ _ _ k2)).trans Fwd.must).trans (hg _ _ e k3)).le (by decide)
    ·exact hs _ _ _ rfl h2
   intro he
   obtain ⟨q1, q2, q3⟩ := hb he
   exact ⟨q1, q2, by show b.2.deep - 1 = s.deep; have : b.2.deep = s.deep + 1 := q3; omega⟩
 | lev k =>
  obtain ⟨a, h1, h⟩ := bind_some h
  have hl : strN (lowN k) = true := by
   match k with
   | 0 => rfl
   | 1 => rfl
   | 2 => rfl
   | k + 3 => rfl
  exact ((hs _ _ _ hl h1).trans (hg _ _ _ h)).le (by decide)
 | rows k x => cases hn
 | rel =>
  have h := h
  unfold stepG relG at h
  obtain ⟨a, h1, h⟩ := bind_some h
  have h0 := hs _ _ _ rfl h1
  iterate 7 (split at h; (obtain ⟨b, h2, rfl⟩ := map_some' h; exact ((h0.trans Fwd.adv).trans (hg _ _ b h2)).le (by decide)))
  split at h
  ·simp only [Option.some.injEq] at h; subst h; exact ((h0.trans Fwd.adv).trans Fwd.take).le (by decide)
  split at h
  ·simp only [Option.some.injEq] at h; subst h; exact ((h0.trans Fwd.adv).trans Fwd.path).le (by decide)
  simp only [Option.some.injEq] at h; subst h; exact h0
 | unary =>
  simp only [stepG] at h
  split at h
  ·simp only [Option.some.injEq] at h; subst h; exact Fwd.fail (by decide) 1
  ·obtain ⟨b, h2, rfl⟩ := map_some' h
   have hb : Fwd 1 (inn s) b.2 := by
    unfold prefG at h2
    split at h2
    ·obtain ⟨c, k2, rfl⟩ := map_some' h2; exact (Fwd.adv.trans (hg _ _ c k2)).le (by decide)
    split at h2
    ·obtain ⟨c, k2, rfl⟩ := map_some' h2; exact (Fwd.adv.trans (hg _ _ c k2)).le (by decide)
    ·exact hs _ _ _ rfl h2
   intro he
   obtain ⟨q1, q2, q3⟩ := hb he
   exact ⟨q1, q2, by show b.2.deep - 1 = s.deep; have : b.2.deep = s.deep + 1 := q3; omega⟩
 | member =>
  obtain ⟨a, h1, h⟩ := bind_some h
  exact ((hs _ _ _ rfl h1).trans (hg _ _ _ h)).le (by decide)
 | mems x => cases hn
 | prim => exact str_prim hs hg h
 | its op ns ks =>
  have h := h
  unfold stepG itsG at h
  obtain ⟨a, h1, h⟩ := bind_some h
  have h0 := Fwd.head.trans (hs _ _ _ rfl h1)
  split at h
  ·simp only [Option.some.injEq] at h; subst h; exact (h0.trans Fwd.adv).le (by decide)
  ·exact ((h0.trans Fwd.must).trans (hg _ _ _ h)).le (by decide)
end
theorem G_str (ws : Ws) : ∀ n, StrG (G ws n)
 | 0 => fun _ _ _ _ h => by obtain ⟨h1, rfl⟩ := G_zero h; exact fun he => absurd he h1
 | n + 1 => fun nt s y hn h => by
  rw [G_succ] at h
  split at h
  ·exact str_step (G_str ws n) (G_goes ws n) hn h
  ·rename_i he
   simp only [Option.some.injEq] at h; subst h; exact fun h0 => absurd h0 he
def SimG (d m : Int) (g g' : NT → St → Option (Ex' × St)) : Prop := ∀ nt s y, g nt s = some y → y.2.e = 0 → 0 ≤ s.p → y.2.p ≤ m → g' nt (sh d s) = some (y.1, sh d y.2)
theorem bind_of {α β : Type} {o : Option α} {f : α → Option β} {x : α} {y : β} (h1 : o = some x) (h2 : f x = some y) : o.bind f = some y := by rw [h1]; exact h2
theorem map_of {α β : Type} {o : Option α} {f : α → β} {x : α} {y : β} (h1 : o = some x) (h2 : f x = y) : o.map f = some y := by rw [h1, ← h2]; rfl
theorem sh_inn (d : Int) (s : St) : sh d (inn s) = inn (sh d s) := rfl
section
variable {ws ws' : Ws} {d m : Int} (S : Sm ws ws' d m) {g g' : NT → St → Option (Ex' × St)} (hs : StrG g) (hg : GoesOn g) (hG : SimG d m g g')
include S hs hg hG
theorem sim_choice {s : St} {y : Ex' × St} (h : choiceG ws g s = some y) (he : y.2.e = 0) (h0 : 0 ≤ s.p) (hm : y.2.p ≤ m) : choiceG ws' g' (sh d s) = some (y.1, sh d y.2) := by
 have hf := goes_choice hg h he
 unfold choiceG at h ⊢
 rw [S.op h0 (by omega) _ (by decide)]
 split at h
 ·rename_i hi
  rw [if_pos hi]
  obtain ⟨a, h1, h⟩ := bind_some h
  obtain ⟨b, h2, h⟩ := bind_some h
  obtain ⟨c, h3, rfl⟩ := map_some' h
  dsimp only at he hm
  have f3 := hg _ _ c h3 he
  have f2' := Fwd.must f3.1
  have f2 := hg _ _ b h2 f2'.1
  have f1' := Fwd.must f2.1
  have f1 := hg _ _ a h1 f1'.1
  have ea : (adv s).p = s.p + 1 := rfl
  refine bind_of (x := (a.1, sh d a.2)) (by rw [← sh_adv]; exact hG _ _ a h1 f1'.1 (by omega) (by omega)) ?_
  dsimp only
  rw [S.must (by omega) f2.1 (by omega)]
  refine bind_of (x := (b.1, sh d b.2)) (hG _ _ b h2 f2'.1 (by omega) (by omega)) ?_
  dsimp only
  rw [S.must (by omega) f3.1 (by omega)]
  exact map_of (hG _ _ c h3 he (by omega) hm) rfl
 ·rename_i hi
  rw [if_neg hi]
  exact hG _ _ y h he h0 hm
theorem sim_rel {s : St} {y : Ex' × St} (h : relG ws g s = some y) (he : y.2.e = 0) (h0 : 0 ≤ s.p) (hm : y.2.p ≤ m) : relG ws' g' (sh d s) = some (y.1, sh d y.2) := by
 unfold relG at h ⊢
 obtain ⟨a, h1, h⟩ := bind_some h
 have hfa : a.2.e = 0 ∧ a.2.p ≤ y.2.p := by
  have hr : Fwd 0 a.2 y.2 := by
   iterate 7 (split at h; (obtain ⟨b, h2, rfl⟩ := map_some' h; exact (Fwd.adv.trans (hg _ _ b h2)).le (by decide)))
   split at h
   ·simp only [Option.some.injEq] at h; subst h; exact (Fwd.adv.trans Fwd.take).le (by decide)
   split at h
   ·simp only [Option.some.injEq] at h; subst h; exact (Fwd.adv.trans Fwd.path).le (by decide)
   simp only [Option.some.injEq] at h; subst h; exact Fwd.refl
  have := hr he
  exact ⟨this.1, by omega⟩
 have f1 := hg _ _ a h1 hfa.1
 have o0 : 0 ≤ a.2.p := by omega
 have om : a.2.p ≤ m := by omega
 refine bind_of (hG _ _ a h1 hfa.1 h0 om) ?_
 dsimp only
 have ea : (adv a.2).p = a.2.p + 1 := rfl
 simp only [S.op o0 om [61, 61] (by decide), S.op o0 om [33, 61] (by decide), S.op o0 om [60] (by decide), S.op o0 om [60, 61] (by decide), S.op o0 om [62] (by decide), S.op o0 om [62, 61] (by decide), S.op o0 om [105, 110] (by decide), S.op o0 om [104, 97, 115] (by decide), S.op o0 om [105, 115] (by decide)]
 iterate 7 (split at h; (rename_i hi; rw [if_pos hi]; obtain ⟨b, h2, rfl⟩ := map_some' h; have f2 := hg _ _ b h2 he; exact map_of (by rw [← sh_adv]; exact hG _ _ b h2 he (by omega) hm) rfl); (rename_i hi; rw [if_neg hi]; clear hi))
 split at h
 ·rename_i hi
  rw [if_pos hi]
  simp only [Option.some.injEq] at h; subst h
  rw [← sh_adv, S.take (by omega) he hm]
 rename_i hi
 rw [if_neg hi]
 split at h
 ·rename_i hi
  rw [if_pos hi]
  simp only [Option.some.injEq] at h; subst h
  rw [← sh_adv, S.path (by omega) he hm]
 rename_i hi
 rw [if_neg hi]
 simp only [Option.some.injEq] at h; subst h; rfl
theorem sim_pref {s : St} {y : Ex' × St} (h : prefG ws g s = some y) (he : y.2.e = 0) (h0 : 0 ≤ s.p) (hm : y.2.p ≤ m) : prefG ws' g' (sh d s) = some (y.1, sh d y.2) := by
 have hf := goes_pref hg h he
 have ea : (adv s).p = s.p + 1 := rfl
 unfold prefG at h ⊢
 rw [S.op h0 (by omega) _ (by decide), S.op h0 (by omega) _ (by decide)]
 split at h
 ·rename_i hi
  rw [if_pos hi]
  obtain ⟨b, h2, rfl⟩ := map_some' h
  exact map_of (by rw [← sh_adv]; exact hG _ _ b h2 he (by omega) hm) rfl
 rename_i hi
 rw [if_neg hi]
 split at h
 ·rename_i hi
  rw [if_pos hi]
  obtain ⟨b, h2, rfl⟩ := map_some' h
  exact map_of (by rw [← sh_adv]; exact hG _ _ b h2 he (by omega) hm) rfl
 rename_i hi
 rw [if_neg hi]
 exact hG _ _ y h he h0 hm
theorem sim_mems {x : Ex'} {s : St} {y : Ex' × St} (h : memsG ws g x s = some y) (he : y.2.e = 0) (h0 : 0 ≤ s.p) (hm : y.2.p ≤ m) : memsG ws' g' x (sh d s) = some (y.1, sh d y.2) := by
 have hf := goes_mems hg h he
 have ea : (adv s).p = s.p + 1 := rfl
 unfold memsG at h ⊢
 rw [S.op h0 (by omega) _ (by decide), S.op h0 (by omega) _ (by decide)]
 split at h
 ·rename_i hi
  rw [if_pos hi]
  have f2 := hg _ _ _ h he
  have f1 := Fwd.must f2.1
  have f0 := Fwd.take f1.1
  rw [← sh_adv, S.take (by omega) f1.1 (by omega)]
  dsimp only
  rw [S.must (by omega) f2.1 (by omega)]
  exact hG _ _ y h he (by omega) hm
 rename_i hi
 rw [if_neg hi]
 split at h
 ·rename_i hi
  rw [if_pos hi]
  dsimp only at h ⊢
  have ht : (takeS ws (adv s) 1).2.e = 0 ∧ (takeS ws (adv s) 1).2.p ≤ y.2.p := by
   have hr : Fwd 0 (takeS ws (adv s) 1).2 y.2 := by
    split at h
    ·exact hg _ _ _ h
    split at h
    ·simp only [Option.some.injEq] at h; subst h; exact Fwd.fail (by decide) 0
    ·obtain ⟨b, h2, h⟩ := bind_some h
     exact (((Fwd.adv.trans (hg _ _ _ h2)).trans Fwd.must).trans (hg _ _ _ h)).le (by decide)
   have := hr he
   exact ⟨this.1, by omega⟩
  have f0 := Fwd.take ht.1
  have e1 : (adv (takeS ws (adv s) 1).2).p = (takeS ws (adv s) 1).2.p + 1 := rfl
  rw [← sh_adv, S.take (by omega) ht.1 (by omega)]
  dsimp only
  rw [S.op (by omega) (by omega) _ (by decide)]
  split at h
  ·rename_i hj
   rw [if_pos hj]
   exact hG _ _ y h he (by omega) hm
  rename_i hj
  rw [if_neg hj]
  split at h
  ·simp only [Option.some.injEq] at h; subst h; exact absurd he (failS_e (by decide))
  ·rename_i hk
   rw [if_neg hk]
   obtain ⟨b, h2, h⟩ := bind_some h
   have f3 := hg _ _ _ h he
   have f2 := Fwd.must f3.1
   have f1 := hg _ _ b h2 f2.1
   refine bind_of (x := (b.1, sh d b.2)) (by rw [← sh_adv]; exact hG _ _ b h2 f2.1 (by omega) (by omega)) ?_
   dsimp only
   rw [S.must (by omega) f3.1 (by omega)]
   exact hG _ _ y h he (by omega) hm
 ·rename_i hi
  rw [if_neg hi]
  simp only [Option.some.injEq] at h; subst h; rfl
theorem sim_its {op : Int} {ns : List Str} {ks : List Ex'} {s : St} {y : Ex' × St} (h : itsG ws g op ns ks s = some y) (he : y.2.e = 0) (h0 : 0 ≤ s.p) (hm : y.2.p ≤ m) : itsG ws' g' op ns ks (sh d s) = some (y.1, sh d y.2) := by
 unfold itsG at h ⊢
 obtain ⟨a, h1, h⟩ := bind_some h
 have e1 : (adv a.2).p = a.2.p + 1 := rfl
 have hfa : a.2.e = 0 ∧ a.2.p + 1 ≤ y.2.p := by
  have hr : Fwd 1 a.2 y.2 := by
   split at h
   ·simp only [Option.some.injEq] at h; subst h; exact Fwd.adv
   ·exact (Fwd.must.trans (hg _ _ _ h)).le (by decide)
  have := hr he
  exact ⟨this.1, by omega⟩
 have f1 := hg _ _ a h1 hfa.1
 have f0 := Fwd.head f1.1
 rw [S.head h0 f1.1 (by omega)]
 refine bind_of (x := (a.1, sh d a.2)) (hG _ _ a h1 hfa.1 (by omega) (by omega)) ?_
 dsimp only
 rw [S.is (by omega) (by omega)]
 split at h
 ·rename_i hi
  rw [if_pos hi]
  simp only [Option.some.injEq] at h; subst h
  rw [← sh_adv]
 ·rename_i hi
  rw [if_neg hi]
  have f2 := hg _ _ _ h he
  have f3 := Fwd.must f2.1
  rw [S.must (by omega) f2.1 (by omega)]
  exact hG _ _ y h he (by omega) hm
theorem sim_items {op : Int} {s : St} {y : Ex' × St} (h : itemsG ws g op s = some y) (he : y.2.e = 0) (h0 : 0 ≤ s.p) (hm : y.2.p ≤ m) : itemsG ws' g' op (sh d s) = some (y.1, sh d y.2) := by
 have e1 : (adv s).p = s.p + 1 := rfl
 unfold itemsG at h ⊢
 have hlt : s.p + 1 ≤ y.2.p := by
  have hr : Fwd 1 s y.2 := by
   split at h
   ·simp only [Option.some.injEq] at h; subst h; exact Fwd.adv
   ·exact hs _ _ _ rfl h
  have := (hr he).2.1
  omega
 rw [S.is h0 (by omega)]
 split at h
 ·rename_i hi
  rw [if_pos hi]
  simp only [Option.some.injEq] at h; subst h
  rw [← sh_adv]
 ·rename_i hi
  rw [if_neg hi]
  exact hG _ _ y h he h0 hm
theorem sim_prim {s : St} {y : Ex' × St} (h : primG ws g s = some y) (he : y.2.e = 0) (h0 : 0 ≤ s.p) (hm : y.2.p ≤ m) : primG ws' g' (sh d s) = some (y.1, sh d y.2) := by
 have hlt := (str_prim hs hg h he).2.1
 have hl : s.p < m := by omega
 have e1 : (adv s).p = s.p + 1 := rfl
 unfold primG at h ⊢
 rw [S.wk h0 hl, S.wtx h0 hl, S.wn h0 hl, S.is h0 hl, S.is h0 hl, S.is h0 hl]
 split at h
 ·rename_i hk; rw [if_pos hk]
  simp only [Option.some.injEq] at h; subst h; rw [← sh_adv]
 rename_i hk; rw [if_neg hk]; clear hk
 split at h
 ·rename_i hk; rw [if_pos hk]
  simp only [Option.some.injEq] at h; subst h; rw [← sh_adv]
 rename_i hk; rw [if_neg hk]; clear hk
 split at h
 ·rename_i hk; rw [if_pos hk]
  split at h
  ·rename_i hj; rw [if_pos hj]
   simp only [Option.some.injEq] at h; subst h; rw [← sh_adv]
  ·simp only [Option.some.injEq] at h; subst h; exact absurd he (failS_e (by decide))
 rename_i hk; rw [if_neg hk]; clear hk
 split at h
 ·rename_i hk; rw [if_pos hk]
  simp only [Option.some.injEq] at h; subst h
  rw [S.name h0 hk he hm]
 rename_i hk; rw [if_neg hk]; clear hk
 split at h
 ·rename_i hk; rw [if_pos hk]
  obtain ⟨b, h2, rfl⟩ := map_some' h
  dsimp only at he hm
  have f1 := Fwd.must he
  have f0 := hg _ _ b h2 f1.1
  refine map_of (x := (b.1, sh d b.2)) (by rw [← sh_adv]; exact hG _ _ b h2 f1.1 (by omega) (by omega)) ?_
  dsimp only
  rw [S.must (by omega) he hm]
 rename_i hk; rw [if_neg hk]; clear hk
 split at h
 ·rename_i hk; rw [if_pos hk, ← sh_adv]
  exact sim_items S hs hg hG h he (by omega) hm
 rename_i hk; rw [if_neg hk]; clear hk
 split at h
 ·rename_i hk; rw [if_pos hk, ← sh_adv]
  exact sim_items S hs hg hG h he (by omega) hm
 ·simp only [Option.some.injEq] at h; subst h; exact absurd he (failS_e (by decide))
theorem sim_step {nt : NT} {s : St} {y : Ex' × St} (h : stepG ws g nt s = some y) (he : y.2.e = 0) (h0 : 0 ≤ s.p) (hm : y.2.p ≤ m) : stepG ws' g' nt (sh d s) = some (y.1, sh d y.2) := by
 cases nt with
 | expr =>
  simp only [stepG] at h ⊢
  split at h
  ·simp only [Option.some.injEq] at h; subst h; exact absurd he (failS_e (by decide))
  ·rename_i hd
   rw [if_neg (show ¬ 50 ≤ (sh d s).deep from hd)]
   obtain ⟨b, h2, rfl⟩ := map_some' h
   exact map_of (by rw [← sh_inn]; exact sim_choice S hs hg hG h2 he h0 hm) rfl
 | lev k =>
  simp only [stepG] at h ⊢
  obtain ⟨a, h1, h⟩ := bind_some h
  have f1 := hg _ _ _ h he
  have f0 := hg _ _ a h1 f1.1
  exact bind_of (hG _ _ a h1 f1.1 h0 (by omega)) (hG _ _ y h he (by omega) hm)
 | rows k x =>
  have hf := goes_step hg h he
  simp only [stepG] at h ⊢
  have eo : opAt ws' k (sh d s) = opAt ws k s := by
   match k with
   | 0 => simp only [opAt]; rw [S.op h0 (by omega) _ (by decide)]
   | 1 => simp only [opAt]; rw [S.op h0 (by omega) _ (by decide)]
   | 2 => simp only [opAt]; rw [S.op h0 (by omega) _ (by decide), S.op h0 (by omega) _ (by decide)]
   | k + 3 => simp only [opAt]; rw [S.op h0 (by omega) _ (by decide)]
  rw [eo]
  split at h
  ·rename_i ho
   rw [if_pos ho]
   simp only [Option.some.injEq] at h; subst h; rfl
  ·rename_i ho
   rw [if_neg ho]
   obtain ⟨a, h1, h⟩ := bind_some h
   have f1 := hg _ _ _ h he
   have f0 := hg _ _ a h1 f1.1
   have e1 : (adv s).p = s.p + 1 := rfl
   exact bind_of (by rw [← sh_adv]; exact hG _ _ a h1 f1.1 (by omega) (by omega)) (hG _ _ y h he (by omega) hm)
 | rel => exact sim_rel S hs hg hG h he h0 hm
 | unary =>
  simp only [stepG] at h ⊢
  split at h
  ·simp only [Option.some.injEq] at h; subst h; exact absurd he (failS_e (by decide))
  ·rename_i hd
   rw [if_neg (show ¬ 50 ≤ (sh d s).deep from hd)]
   obtain ⟨b, h2, rfl⟩ := map_some' h
   exact map_of (by rw [← sh_inn]; exact sim_pref S hs hg hG h2 he h0 hm) rfl
 | member =>
  simp only [stepG] at h ⊢
  obtain ⟨a, h1, h⟩ := bind_some h
  have f1 := hg _ _ _ h he
  have f0 := hg _ _ a h1 f1.1
  exact bind_of (hG _ _ a h1 f1.1 h0 (by omega)) (hG _ _ y h he (by omega) hm)
 | mems x => exact sim_mems S hs hg hG h he h0 hm
 | prim => exact sim_prim S hs hg hG h he h0 hm
 | its op ns ks => exact sim_its S hs hg hG h he h0 hm
end
theorem G_sim {ws ws' : Ws} {d m : Int} (S : Sm ws ws' d m) : ∀ n, SimG d m (G ws n) (G ws' n)
 | 0 => fun _ _ _ h he => by obtain ⟨h1, rfl⟩ := G_zero h; exact absurd he h1
 | n + 1 => fun nt s y h he h0 hm => by
  rw [G_succ] at h ⊢
  split at h
  ·rename_i hs
   rw [if_pos (show (sh d s).e = 0 from hs)]
   exact sim_step S (G_str ws n) (G_goes ws n) (G_sim S n) h he h0 hm
  ·rename_i hs
   simp only [Option.some.injEq] at h; subst h; exact absurd he hs
theorem read_sim {ws ws' : Ws} {d m : Int} (S : Sm ws ws' d m) {i : Int} (hi : 0 ≤ i) (he : (readS ws i).2.2.1 = 0) (hm : (readS ws i).2.1 ≤ m) : readS ws' (i + d) = ((readS ws i).1, (readS ws i).2.1 + d, 0, 0) := by
 obtain ⟨n, hn⟩ := runG_ex ws .expr (st0 i)
 unfold readS at he hm
 by_cases h : (runG ws .expr (st0 i)).2.e = 0
 ·rw [if_pos h] at hm
  have h1 := G_sim S n _ _ _ hn h hi hm
  have h2 := runG_of (ws := ws') (s := st0 (i + d)) h1
  unfold readS
  rw [h2, if_pos h, if_pos (show (sh d (runG ws .expr (st0 i)).2).e = 0 from h)]
  rfl
 ·rw [if_neg h] at he; exact absurd he h
end Go.Proofs.YtnenbihkcjgddaaGreatDoor
namespace Go.Proofs.YtnenbihkcjgddaaGreatDoor
open Go Go.Eng
set_option maxHeartbeats 1000000
set_option linter.unusedSimpArgs false
set_option linter.unusedVariables false
set_option maxRecDepth 20000
theorem tok_kind {s : Str} {w : Wd} {m : Nat} (h : tok s = .ok (w, m)) : w.1 ≠ 0 := by
 unfold tok at h
 split at h
 ·cases h
 ·split at h
  ·cases h
  ·rename_i h1 h2
   simp only [Except.ok.injEq, Prod.mk.injEq] at h
   obtain ⟨rfl, -⟩ := h
   revert h1 h2
   unfold oneX
   repeat' split
   all_goals simp
theorem w1_mid : ∀ (n a : Nat) (s : Str) (l : List (Wd × Nat)), s.length < n → w1 n a s = .ok l → ∃ ks : List Wd, l.map Prod.fst = ks ++ [(0, [], 0)] ∧ ∀ w ∈ ks, w.1 ≠ 0
 | 0, _, s, l, hn, h => by omega
 | n + 1, a, s, l, hn, h => by
  rw [w1] at h
  split at h
  ·injection h with h; subst h
   exact ⟨[], rfl, fun w hw => by cases hw⟩
  ·rename_i hne
   split at h
   ·cases h
   ·rename_i w m hk
    split at h
    ·cases h
    ·rename_i l' hl
     injection h with h; subst h
     have h1 := tok_len hk
     have hpos : 0 < s.length := List.length_pos_iff.2 hne
     obtain ⟨ks, i1, i2⟩ := w1_mid n _ _ l' (by rw [List.length_drop]; omega) hl
     refine ⟨w :: ks, by rw [List.map_cons, i1]; rfl, fun v hv => ?_⟩
     rcases List.mem_cons.1 hv with rfl | hv
     ·exact tok_kind hk
     ·exact i2 v hv
def ksT (t : Str) : List Wd := match words t with
 | .ok l => (l.map Prod.fst).dropLast
 | .error _ => []
def CndOk (t : Str) : Prop := (parseS t).2.1 = 0 ∧ hasSl (parseS t).1 prN = false ∧ hasSl (parseS t).1 reN = false ∧ t.length ≤ 200
theorem parse_read {t : Str} (h : (parseS t).2.1 = 0) : ∃ l, words t = .ok l ∧ l.map Prod.fst = ksT t ++ [(0, [], 0)] ∧ (readS l 0).1 = (parseS t).1 ∧ (readS l 0).2.1 = (ksT t).length ∧ (readS l 0).2.2.1 = 0 ∧ depX (parseS t).1 ≤ 50 := by
 unfold parseS at h
 by_cases hl : 65536 < t.length
 ·rw [if_pos hl] at h; exact absurd h (by decide)
 rw [if_neg hl] at h
 cases hw : words t with
 | error y => rw [hw] at h; exact absurd h (w1_err _ _ _ _ hw)
 | ok l =>
  have hp : parseS t = parseL l (readS l 0) := by unfold parseS; rw [if_neg hl, hw]
  obtain ⟨ks, e1, e2⟩ := w1_mid _ _ _ l (by rw [List.length_drop]; omega) hw
  have hk : ksT t = ks := by unfold ksT; rw [hw]; simp only; rw [e1, List.dropLast_concat]
  have el : l.length = ks.length + 1 := by have := congrArg List.length e1; rwa [List.length_map, List.length_append, List.length_singleton] at this
  rw [hw] at h
  simp only at h
  rw [hp, hk]
  refine ⟨l, rfl, e1, ?_⟩
  have hin := @read_in l (words_end hw) 0 ⟨Int.le_refl 0, by omega⟩
  unfold parseL at h ⊢
  by_cases h1 : (readS l 0).2.2.1 = 0
  ·rw [if_neg (by simpa using h1)] at h ⊢
   by_cases h2 : ((wdAt l (readS l 0).2.1).1.1 : Int) = 0
   ·rw [if_neg (by simpa using h2)] at h ⊢
    by_cases h3 : 50 < depX (readS l 0).1
    ·rw [if_pos h3] at h; exact absurd h (by decide)
    ·rw [if_neg h3] at h ⊢
     obtain ⟨p0, p1, -⟩ := hin h1
     refine ⟨rfl, ?_, h1, by show depX (readS l 0).1 ≤ 50; omega⟩
     obtain ⟨i, hi⟩ : ∃ i : Nat, (readS l 0).2.1 = i := ⟨(readS l 0).2.1.toNat, by omega⟩
     rw [hi] at h2 p1 ⊢
     by_cases hlt : i < ks.length
     ·have h4 := (At.of e1 0).2 i ks[i] (by rw [List.getElem?_append_left hlt, List.getElem?_eq_getElem hlt])
      rw [show (⟨0, (0 : Int), 0, 0⟩ : St).p + (i : Int) = (i : Int) by show (0 : Int) + i = i; omega] at h4
      rw [h4] at h2
      exact absurd (by omega) (e2 _ (List.getElem_mem hlt))
     ·omega
   ·rw [if_pos h2] at h; exact absurd h (show ¬ (10 : Int) = 0 by decide)
  ·rw [if_pos h1] at h; exact absurd h h1
theorem At.drop {ws : Ws} {s : St} {K1 K2 : List Wd} (h : At ws s (K1 ++ K2)) : At ws ⟨s.p + K1.length, s.deep, s.e, s.bad⟩ K2 := ⟨h.1, fun j w hj => by
 have := h.2 (K1.length + j) w (by rw [List.getElem?_append_right (by omega), show K1.length + j - K1.length = j by omega]; exact hj)
 rwa [show s.p + ((K1.length + j : Nat) : Int) = s.p + K1.length + j by omega] at this⟩
def addC (x : Pol) (l : List (Bool × Ex')) : Pol := ⟨x.id, x.permit, x.p, x.a, x.r, x.conds ++ l⟩
def condK (c : Bool × Str) : List Wd := nm (if c.1 then whenT else unlT) :: mk [123] :: (ksT c.2 ++ [mk [125]])
def condT (c : Bool × Str) : Str := (if c.1 then [32, 119, 104, 101, 110, 32, 123] else [32, 117, 110, 108, 101, 115, 115, 32, 123]) ++ c.2 ++ [10, 125]
def condX (c : Bool × Str) : Bool × Ex' := (c.1, (parseS c.2).1)
theorem cond_go {ws : Ws} {s : St} {K : List Wd} {t : Str} (x : Pol) (wh : Bool) (ht : CndOk t) (h0 : 0 ≤ s.p) (h : At ws s (mk [123] :: (ksT t ++ mk [125] :: K))) : ∃ s', condP ws x wh s = (addC x [(wh, (parseS t).1)], s') ∧ At ws s' K ∧ 0 ≤ s'.p := by
 obtain ⟨l, hw, e1, r1, r2, r3, r4⟩ := parse_read ht.1
 have a1 := h.adv
 have a2 := a1.drop
 have a3 := a2.adv
 have hd : 0 ≤ (adv s).p := by show 0 ≤ s.p + 1; omega
 have S : Sm l ws (adv s).p (ksT t).length := by
  refine ⟨fun j h1 h2 => ?_, .inl ?_, .inr ?_, hd⟩
  ·obtain ⟨i, rfl⟩ : ∃ i : Nat, j = i := ⟨j.toNat, by omega⟩
   have hi : i < (ksT t).length := by omega
   have w1 := (At.of e1 0).2 i (ksT t)[i] (by rw [List.getElem?_append_left hi, List.getElem?_eq_getElem hi])
   have w2 := a1.2 i (ksT t)[i] (by rw [List.getElem?_append_left hi, List.getElem?_eq_getElem hi])
   rw [show (⟨0, (0 : Int), 0, 0⟩ : St).p + (i : Int) = (i : Int) by show (0 : Int) + i = i; omega] at w1
   rw [w1, show (i : Int) + (adv s).p = (adv s).p + i by omega, w2]
  ·have w1 := (At.of e1 0).2 (ksT t).length (0, [], 0) (by simp)
   rw [show (⟨0, (0 : Int), 0, 0⟩ : St).p + ((ksT t).length : Int) = ((ksT t).length : Int) by show (0 : Int) + _ = _; omega] at w1
   rw [w1]
  ·have w2 := a2.hd
   rw [show ((ksT t).length : Int) + (adv s).p = (adv s).p + (ksT t).length by omega, w2]
   exact ⟨rfl, by decide⟩
 have hr := read_sim S (Int.le_refl 0) r3 (Int.le_of_eq r2)
 rw [Int.zero_add, r1, r2] at hr
 unfold condP
 dsimp only
 rw [h.must (.inl rfl), if_neg (by have := a1.1; simpa using this), hr]
 dsimp only
 rw [if_neg (by decide), ht.2.1, ht.2.2.1, Bool.and_false, Bool.and_false, if_neg (by decide), if_neg (show ¬ 50 < depX (parseS t).1 by omega)]
 rw [show ((ksT t).length : Int) + (adv s).p = (adv s).p + (ksT t).length by omega, a2.must (.inl rfl)]
 exact ⟨_, rfl, a3, by show 0 ≤ (adv s).p + (ksT t).length + 1; omega⟩
theorem conds_go {ws : Ws} {K : List Wd} : ∀ (cs : List (Bool × Str)) (n : Nat) (x : Pol) (s : St), cs.length < n → (∀ c ∈ cs, CndOk c.2) → 0 ≤ s.p → At ws s (cs.flatMap condK ++ mk [59] :: K) → ∃ s', condsF ws n x s = (addC x (cs.map condX), s') ∧ At ws s' K
 | _, 0, _, _, hn, _, _, _ => absurd hn (by omega)
 | [], n + 1, x, s, _, _, _, h => by
  have h : At ws s (mk [59] :: K) := h
  rw [condsF, if_neg (by have := h.1; simpa using this), h.is, h.is, if_neg (by decide), if_neg (by decide), h.must (.inl rfl)]
  exact ⟨_, by unfold addC; rw [List.map_nil, List.append_nil], h.adv⟩
 | c :: cs, n + 1, x, s, hn, hc, h0, h => by
  obtain ⟨k, t⟩ := c
  have ht : CndOk t := hc _ List.mem_cons_self
  rw [List.flatMap_cons, List.append_assoc] at h
  have h : At ws s (nm (if k then whenT else unlT) :: mk [123] :: (ksT t ++ [mk [125]] ++ (cs.flatMap condK ++ mk [59] :: K))) := h
  rw [List.append_assoc, List.singleton_append] at h
  have a1 := h.adv
  obtain ⟨s1, g1, g2, g3⟩ := cond_go x k ht (by show 0 ≤ s.p + 1; omega) a1
  obtain ⟨s2, g4, g5⟩ := conds_go cs n (addC x [(k, (parseS t).1)]) s1 (by rw [List.length_cons] at hn; omega) (fun c h => hc c (List.mem_cons_of_mem _ h)) g3 g2
  refine ⟨s2, ?_, g5⟩
  rw [condsF, if_neg (by have := h.1; simpa using this), h.is, h.is]
  have ee : addC (addC x [(k, (parseS t).1)]) (cs.map condX) = addC x (((k, t) :: cs).map condX) := by
   unfold addC condX
   rw [List.map_cons, List.append_assoc]; rfl
  cases k with
  | true =>
   rw [if_pos (by decide), g1]
   dsimp only
   rw [g4, ee]
  | false =>
   rw [if_neg (by decide), if_pos (by decide), g1]
   dsimp only
   rw [g4, ee]
def forbH : Str := [102, 111, 114, 98, 105, 100, 40, 112, 114, 105, 110, 99, 105, 112, 97, 108, 44, 32, 97, 99, 116, 105, 111, 110, 44, 32, 114, 101, 115, 111, 117, 114, 99, 101, 41]
def forbK : List Wd := [nm forbT, mk [40], nm prN, mk [44], nm actN, mk [44], nm reN, mk [41]]
theorem forb_lexs : Lexs forbH forbK any8 := by
 have m : ∀ c, onesR.contains c = true → (∀ d, twosL.contains [c, d] = false) → Lexs [c] [mk [c]] any8 := fun c h h2 => (Lexs.mark1 h).mono fun d _ => by rw [h2]; rfl
 have two : ∀ c : UInt8, c = 40 ∨ c = 41 ∨ c = 44 ∨ c = 59 → ∀ d : UInt8, twosL.contains [c, d] = false := by
  rintro c (rfl | rfl | rfl | rfl) d <;> simp [twosL]
 have h40 := m 40 (by decide) (two 40 (by simp))
 have h41 := m 41 (by decide) (two 41 (by simp))
 have h44 := m 44 (by decide) (two 44 (by simp))
 have sp : Lexs [32] [] any8 := Lexs.sp (by decide)
 have e1 : Lexs ([102, 111, 114, 98, 105, 100] ++ [40]) _ any8 := (Lexs.name (by decide)).app h40 (by simp) (fun c r e => by injection e with e; subst e; decide)
 have e2 : Lexs ([112, 114, 105, 110, 99, 105, 112, 97, 108] ++ [44]) _ any8 := (Lexs.name (by decide)).app h44 (by simp) (fun c r e => by injection e with e; subst e; decide)
 have e3 : Lexs ([97, 99, 116, 105, 111, 110] ++ [44]) _ any8 := (Lexs.name (by decide)).app h44 (by simp) (fun c r e => by injection e with e; subst e; decide)
 have e4 : Lexs ([114, 101, 115, 111, 117, 114, 99, 101] ++ [41]) _ any8 := (Lexs.name (by decide)).app h41 (by simp) (fun c r e => by injection e with e; subst e; decide)
 exact e1.app' (e2.app' (sp.app' (e3.app' (sp.app' e4))))
theorem cond_lexs {c : Bool × Str} (h : CndOk c.2) : Lexs (condT c) (condK c) any8 := by
 obtain ⟨k, t⟩ := c
 obtain ⟨l, hw, e1, -⟩ := parse_read h.1
 have m : ∀ c, onesR.contains c = true → (∀ d, twosL.contains [c, d] = false) → Lexs [c] [mk [c]] any8 := fun c h h2 => (Lexs.mark1 h).mono fun d _ => by rw [h2]; rfl
 have two : ∀ c : UInt8, c = 123 ∨ c = 125 → ∀ d : UInt8, twosL.contains [c, d] = false := by
  rintro c (rfl | rfl) d <;> simp [twosL]
 have h1 := m 123 (by decide) (two 123 (by simp))
 have h2 := m 125 (by decide) (two 125 (by simp))
 have sp : Lexs [32] [] any8 := Lexs.sp (by decide)
 have e : ∀ u : Str, nameB u = true → Lexs ([32] ++ ((u ++ [32]) ++ ([123] ++ (t ++ [10] ++ [125])))) (nm u :: mk [123] :: (ksT t ++ [mk [125]])) any8 := fun u hu => by
  have e2 : Lexs (u ++ [32]) [nm u] any8 := by
   have := (Lexs.name hu).app sp (by simp) (fun c r e => by injection e with e; subst e; decide)
   simpa using this
  have := sp.app' (e2.app' (h1.app' ((Lexs.nl hw e1).app' h2)))
  simpa using this
 cases k with
 | true =>
  have := e whenT (by decide)
  unfold condT condK
  simpa [whenT] using this
 | false =>
  have := e unlT (by decide)
  unfold condT condK
  simpa [unlT] using this
theorem conds_lexs : ∀ (cs : List (Bool × Str)), (∀ c ∈ cs, CndOk c.2) → Lexs (cs.flatMap condT) (cs.flatMap condK) any8
 | [], _ => Lexs.nil
 | c :: cs, h => by
  rw [List.flatMap_cons, List.flatMap_cons]
  exact (cond_lexs (h c List.mem_cons_self)).app' (conds_lexs cs fun u hu => h u (List.mem_cons_of_mem _ hu))
theorem forb_go {ws : Ws} {s : St} {K : List Wd} (id : Str) (cs : List (Bool × Str)) (hn : cs.length < ws.length + 1) (hc : ∀ c ∈ cs, CndOk c.2) (h0 : 0 ≤ s.p) (h : At ws s (forbK ++ (cs.flatMap condK ++ mk [59] :: K))) : ∃ s', permB ws id s = (⟨id, false, sc0, sc0, sc0, cs.map condX⟩, s') ∧ At ws s' K := by
 have a0 : At ws s (nm forbT :: mk [40] :: nm prN :: mk [44] :: nm actN :: mk [44] :: nm reN :: mk [41] :: (cs.flatMap condK ++ mk [59] :: K)) := h
 have a1 := a0.adv; have a2 := a1.adv; have a3 := a2.adv; have a4 := a3.adv; have a5 := a4.adv; have a6 := a5.adv; have a7 := a6.adv; have a8 := a7.adv
 unfold permB bodyP
 rw [a0.is, if_neg (by decide), a0.must (.inr rfl)]
 dsimp only
 rw [a1.must (.inl rfl), scope_bare a2 (by decide) (by decide) (by decide)]
 dsimp only
 rw [a3.must (.inl rfl), action_bare a4 (by decide) (by decide)]
 dsimp only
 rw [a5.must (.inl rfl), scope_bare a6 (by decide) (by decide) (by decide)]
 dsimp only
 rw [a7.must (.inl rfl)]
 obtain ⟨s', g1, g2⟩ := conds_go cs (ws.length + 1) ⟨id, false, sc0, sc0, sc0, []⟩ _ hn hc (by simp only [adv]; omega) a8
 exact ⟨s', g1, g2⟩
theorem condT_len (c : Bool × Str) : (condT c).length ≤ c.2.length + 12 := by
 unfold condT
 split <;> simp <;> omega
def forbP (cs : List (Bool × Str)) : Pol := ⟨[112, 111, 108, 105, 99, 121] ++ shows 0, false, sc0, sc0, sc0, cs.map condX⟩
theorem conds_pols (cs : List (Bool × Str)) (hc : ∀ c ∈ cs, CndOk c.2) (hn : cs.length ≤ 8) : polsS (forbH ++ cs.flatMap condT ++ [59]) = ([forbP cs], 0, 0) := by
 have hl : (cs.flatMap condT).length ≤ 212 * cs.length := by
  clear hn
  induction cs with
  | nil => simp
  | cons c cs ih =>
   have := condT_len c
   have := (hc c List.mem_cons_self).2.2.2
   have := ih fun u hu => hc u (List.mem_cons_of_mem _ hu)
   rw [List.flatMap_cons, List.length_append, List.length_cons]; omega
 have h59 : Lexs [59] [mk [59]] any8 := (Lexs.mark1 (by decide)).mono fun d _ => by simp [twosL]
 obtain ⟨l, hw, hK⟩ := ((forb_lexs.app' (conds_lexs cs hc)).app' h59).words
 have hlen : cs.length + 9 < l.length + 1 := by
  have e := congrArg List.length hK
  rw [List.length_map, List.length_append, List.length_singleton, List.length_append, List.length_append] at e
  have e8 : forbK.length = 8 := rfl
  have : cs.length ≤ (cs.flatMap condK).length := by
   clear hc hn hl hw hK e
   induction cs with
   | nil => simp
   | cons c cs ih =>
    rw [List.flatMap_cons, List.length_append, List.length_cons]
    unfold condK
    rw [List.length_cons]; unfold condK at ih; omega
  rw [List.length_singleton] at e
  omega
 have hlen2 : ¬ 65536 < (forbH ++ cs.flatMap condT ++ [59]).length := by
  rw [List.length_append, List.length_append, List.length_singleton, show forbH.length = 35 from rfl]; omega
 unfold polsS
 rw [if_neg hlen2, hw]
 simp only
 have a0 : At l (st0 0) (forbK ++ (cs.flatMap condK ++ mk [59] :: [(0, [], 0)])) := by
  have := At.of hK 0
  rw [List.append_assoc, List.append_assoc] at this
  exact this
 obtain ⟨s', h1, h2⟩ := forb_go (s := st0 0) ([112, 111, 108, 105, 99, 121] ++ shows 0) cs (by omega) hc (Int.le_refl 0) a0
 have a1 : At l (st0 0) (nm forbT :: _) := a0
 have hp : policyP l 0 (st0 0) = (forbP cs, s') := by
  rw [noid_go (n := (0 : Int)) (w := nm forbT) a1 (by decide)]
  exact h1
 obtain ⟨n, hn2⟩ : ∃ n, l.length + 1 = n + 2 := ⟨l.length - 1, by omega⟩
 have hF : polsF l (l.length + 1) [] (st0 0) = ([forbP cs], s') := by
  rw [hn2, polsF, if_neg (by rw [a1.wk]; decide), List.length_nil]
  rw [show ((0 : Nat) : Int) = 0 from rfl, hp]
  dsimp only
  rw [if_neg (by have := h2.1; simpa using this), polsF, if_pos (by rw [h2.wk]; rfl)]
  rfl
 unfold polsL
 dsimp only
 rw [hF]
 dsimp only
 rw [if_neg (by have := h2.1; simpa using this), if_neg (by simp [twiceB])]
end Go.Proofs.YtnenbihkcjgddaaGreatDoor
