/- Joined. -/
import Derived.Test.YtoelfmmfjebabaaGreatDoorJf
import Derived.Test.YtoelfmmfjebabaaGreatDoorJg
import Derived.Test.YtoelfmmfjebabaaGreatDoorJd
import Derived.Test.YtoelfmmfjebabaaGreatDoorJk
import Derived.Test.YtoelfmmfjebabaaGreatDoorJe
import Derived.LaidSub
import Derived.LaidMore
import Derived.Lay
import Derived.Lib.LaidIn
set_option linter.unusedSectionVars false
namespace Go.Proofs.YtoelfmmfjebabaaGreatDoor
open Go Go.Eng
set_option maxHeartbeats 1000000
set_option linter.unusedSimpArgs false
set_option linter.unusedVariables false
set_option maxRecDepth 20000
inductive Tol : Ex' → Prop
 | bool (b : Bool) : Tol (litX ⟨1, b, 0, [], [], []⟩)
 | num {n : Int} : 0 ≤ n → n ≤ 9223372036854775807 → Tol (litX ⟨2, false, n, [], [], []⟩)
 | txt (t : Str) : Tol (litX ⟨3, false, 0, t, [], []⟩)
 | ref {ty : Str} (id : Str) : okPath ty = true → Tol (litX ⟨4, false, 0, [], ty, id⟩)
 | var {t : Str} : t ∈ varL → Tol (.mk 2 lv0 t [] [])
 | slot {t : Str} : t ∈ slotL → Tol (.mk 3 lv0 t [] [])
 | two {op : Int} {a b : Ex'} : isTwo op = true → Tol a → Tol b → Tol (twoX op a b)
 | pre {op : Int} {a : Ex'} : op = 6 ∨ op = 14 → Tol a → Tol (oneX' op [] a)
 | ite {a b c : Ex'} : Tol a → Tol b → Tol c → Tol (.mk 7 lv0 [] [a, b, c] [])
 | is' {t : Str} {a : Ex'} : okPath t = true → Tol a → Tol (oneX' 16 t a)
 | has' {t : Str} {a : Ex'} : nameB t = true → Tol a → Tol (oneX' 17 t a)
 | get {t : Str} {a : Ex'} : Tol a → Tol (oneX' 18 t a)
 | set {ks : List Ex'} : (∀ k, k ∈ ks → Tol k) → Tol (.mk 19 lv0 [] ks [])
 | rcd {ns : List Str} {ks : List Ex'} : ns.length = ks.length → (∀ k, k ∈ ks → Tol k) → Tol (.mk 20 lv0 [] ks ns)
 | meth {op : Int} {a b : Ex'} : op = 21 ∨ op = 22 ∨ op = 23 → Tol a → Tol b → Tol (twoX op a b)
structure TW (x : Ex') (K : List Wd) : Prop where
 rd : Rd2 x K
 lx : Lexs (pt x) K nLD
 fs : ∃ c r, pt x = c :: r ∧ c ≠ 61
def Told (x : Ex') : Prop := okX x = true ∧ ∃ K, TW x K
theorem Lexs.any {P : Str} {ks : List Wd} {ok : UInt8 → Bool} (h : Lexs P ks any8) : Lexs P ks ok := h.mono fun _ _ => rfl
theorem rd2_of {x : Ex'} {w : Wd} {K : List Wd} (h : Rd x (w :: K)) (hw : noneB [[105, 102], [93], [125], [33], [45]] w = true) : Rd2 x (w :: K) := ⟨h, fun _ _ => ⟨w, K, rfl, hw⟩⟩
theorem told_bool (b : Bool) : Told (litX ⟨1, b, 0, [], [], []⟩) := by
 refine ⟨by cases b <;> rfl, _, rd2_of (rd_bool b) (by cases b <;> decide), ?_, ?_⟩
 ·cases b with
  | true => exact Lexs.name (P := [116, 114, 117, 101]) (by decide)
  | false => exact Lexs.name (P := [102, 97, 108, 115, 101]) (by decide)
 ·cases b with
  | true => exact ⟨_, _, rfl, by decide⟩
  | false => exact ⟨_, _, rfl, by decide⟩
theorem isD_no61 {c : UInt8} (h : isD c = true) : c ≠ 61 := by
 rintro rfl; revert h; decide
theorem isL_no61 {c : UInt8} (h : isL c = true) : c ≠ 61 := by
 rintro rfl; revert h; decide
theorem told_num {n : Int} (h0 : 0 ≤ n) (h1 : n ≤ 9223372036854775807) : Told (litX ⟨2, false, n, [], [], []⟩) := by
 obtain ⟨s1, s2, s3⟩ := shows_num h0 h1
 have e : pt (litX ⟨2, false, n, [], [], []⟩) = shows n := rfl
 refine ⟨?_, _, rd2_of (rd_num (shows n) n) (by simp [noneB, wIs]), ?_, ?_⟩
 ·show (arOk 1 0 0 && (okL [] && litOk ⟨2, false, n, [], [], []⟩)) = true
  simp [arOk, kidsI, okL, litOk, h0]
 ·rw [e]
  exact (Lexs.num s1 s2 s3).mono fun c h => by
   have h : (!isLD c) = true := h
   unfold isLD at h
   cases hd : isD c with
   | false => rfl
   | true => rw [hd, Bool.or_true] at h; cases h
 ·rw [e]
  obtain ⟨c, r, e2⟩ := List.exists_cons_of_ne_nil s1
  rw [e2, List.all_cons, Bool.and_eq_true] at s2
  exact ⟨c, r, e2, isD_no61 s2.1⟩
theorem told_txt (t : Str) : Told (litX ⟨3, false, 0, t, [], []⟩) := ⟨rfl, _, rd2_of (rd_txt t) (by simp [noneB, wIs]), (Lexs.quoted t).any, ⟨34, _, rfl, by decide⟩⟩
theorem path_tyk {ty : Str} (h : okPath ty = true) : ∃ ks, TyK ty ks := by
 unfold okPath at h
 rw [Bool.and_eq_true] at h
 obtain ⟨t, K, hk, e⟩ := path_ex _ ty (Nat.le_refl _) h.1
 refine ⟨_, hk, t, K, rfl, ?_⟩
 have h2 := h.2
 unfold fst58 at h2
 rw [← e] at h2
 simpa using h2
theorem path_fs {ty : Str} {ks : List Wd} (h : PathK ty ks) (r : Str) : ∃ c r', ty ++ r = c :: r' ∧ c ≠ 61 := by
 have key : ∀ {t : Str}, nameB t = true → ∃ c r', t = c :: r' ∧ c ≠ 61 := fun {t} ht => by
  cases t with
  | nil => cases ht
  | cons c r => rw [nameB, Bool.and_eq_true] at ht; exact ⟨c, r, rfl, isL_no61 ht.1⟩
 cases h with
 | one ht => obtain ⟨c, r', rfl, hc⟩ := key ht; exact ⟨c, _, rfl, hc⟩
 | more ht _ => obtain ⟨c, r', rfl, hc⟩ := key ht; exact ⟨c, _, rfl, hc⟩
theorem told_ref {ty : Str} (id : Str) (h : okPath ty = true) : Told (litX ⟨4, false, 0, [], ty, id⟩) := by
 obtain ⟨ks, hk⟩ := path_tyk h
 have hr := rd_ref (id := id) hk
 have hk' := hk
 obtain ⟨hk1, t, K, rfl, ho⟩ := hk'
 refine ⟨?_, _, ⟨hr, fun _ _ => ⟨_, _, rfl, ?_⟩⟩, ?_, ?_⟩
 ·show (arOk 1 0 0 && (okL [] && litOk ⟨4, false, 0, [], ty, id⟩)) = true
  simp [arOk, kidsI, okL, litOk, h]
 ·have hn : nameB t = true := by cases hk1 <;> assumption
  have hif : wIs (nm t) [105, 102] = false := by
   unfold wIs
   rw [Bool.and_eq_false_iff]
   refine .inr ?_
   rw [beq_eq_false_iff_ne]
   rintro e
   exact ho (by rw [show t = [105, 102] from e]; simp [ownL])
  have := name_no hn
  simp only [noneB, List.all_cons, List.all_nil, Bool.and_true, hif, Bool.not_false, Bool.true_and] at this ⊢
  exact this
 ·show Lexs (ty ++ (cc ++ quote id)) _ nLD
  have h2 : Lexs ([58, 58] ++ quote id) [mk cK, (3, id, 0)] nLD := (Lexs.mark2 (by decide)).app' (Lexs.quoted id).any
  exact (path_lexs hk1).then h2 (by decide)
 ·exact path_fs hk1 _
theorem told_var {t : Str} (h : t ∈ varL) : Told (.mk 2 lv0 t [] []) := by
 simp [varL] at h
 rcases h with rfl | rfl | rfl | rfl <;> exact ⟨by rfl, _, rd2_of (rd_var (by simp [varL])) (by decide), Lexs.name (by decide), ⟨_, _, rfl, by decide⟩⟩
theorem told_slot {t : Str} (h : t ∈ slotL) : Told (.mk 3 lv0 t [] []) := by
 simp [slotL] at h
 rcases h with rfl | rfl <;> exact ⟨by rfl, _, rd2_of (rd_slot (by simp [slotL])) (by decide), Lexs.slot (by decide), ⟨_, _, rfl, by decide⟩⟩
end Go.Proofs.YtoelfmmfjebabaaGreatDoor
namespace Go.Proofs.YtoelfmmfjebabaaGreatDoor
open Go Go.Eng
set_option maxHeartbeats 1000000
set_option linter.unusedSimpArgs false
set_option linter.unusedVariables false
set_option maxRecDepth 20000
theorem sign_lex {op : Int} (h : isTwo op = true) : ∃ o, opW op o ∧ Lexs (signT op) [o] any8 ∧ ∃ r, signT op = 32 :: r := by
 have h : op = 4 ∨ op = 5 ∨ op = 8 ∨ op = 9 ∨ op = 10 ∨ op = 11 ∨ op = 12 ∨ op = 13 ∨ op = 15 := by
  simp [isTwo] at h; omega
 have m2 : ∀ c d : UInt8, twosL.contains [c, d] = true → Lexs ([32] ++ ([c, d] ++ [32])) [mk [c, d]] any8 := fun c d h => Lexs.sp1 (by have := (Lexs.mark2 h).app' (Lexs.sp (A := [32]) (by decide)); simpa using this)
 have m1 : ∀ c : UInt8, lone c = true → Lexs ([32] ++ ([c] ++ [32])) [mk [c]] any8 := fun c h => Lexs.sp1 (Lexs.one h (Lexs.sp (A := [32]) (by decide)))
 rcases h with rfl | rfl | rfl | rfl | rfl | rfl | rfl | rfl | rfl
 ·exact ⟨_, .inr (.inl ⟨rfl, rfl⟩), m2 38 38 (by decide), _, rfl⟩
 ·exact ⟨_, .inl ⟨rfl, rfl⟩, m2 124 124 (by decide), _, rfl⟩
 ·exact ⟨_, .inr (.inr (.inr (.inr (.inr (.inl ⟨rfl, rfl⟩))))), m2 61 61 (by decide), _, rfl⟩
 ·refine ⟨_, .inr (.inr (.inr (.inr (.inr (.inr (.inl ⟨rfl, rfl⟩)))))), ?_, _, rfl⟩
  have h1 : Lexs ([60] ++ [32]) ([mk [60]] ++ []) any8 := (Lexs.mark1 (by decide)).app (Lexs.sp (A := [32]) (by decide)) (by simp) (fun c r e => by injection e with e1 _; subst e1; decide)
  exact Lexs.sp1 h1
 ·exact ⟨_, .inr (.inr (.inr (.inr (.inr (.inr (.inr (.inl ⟨rfl, rfl⟩))))))), m2 60 61 (by decide), _, rfl⟩
 ·exact ⟨_, .inr (.inr (.inl ⟨rfl, rfl⟩)), m1 43 (by decide), _, rfl⟩
 ·exact ⟨_, .inr (.inr (.inr (.inl ⟨rfl, rfl⟩))), m1 45 (by decide), _, rfl⟩
 ·exact ⟨_, .inr (.inr (.inr (.inr (.inl ⟨rfl, rfl⟩)))), m1 42 (by decide), _, rfl⟩
 ·refine ⟨_, .inr (.inr (.inr (.inr (.inr (.inr (.inr (.inr ⟨rfl, rfl⟩))))))), ?_, _, rfl⟩
  exact Lexs.sp1 (Lexs.word (u := [105, 110]) (Q := []) (by decide) (Lexs.sp (A := [32]) (by decide)) (by decide))
theorem told_two {op : Int} {a b : Ex'} (h : isTwo op = true) (ha : Told a) (hb : Told b) : Told (twoX op a b) := by
 obtain ⟨oa, Ka, ta⟩ := ha
 obtain ⟨ob, Kb, tb⟩ := hb
 obtain ⟨o, ho, hl, r, er⟩ := sign_lex h
 have h' : op = 4 ∨ op = 5 ∨ op = 8 ∨ op = 9 ∨ op = 10 ∨ op = 11 ∨ op = 12 ∨ op = 13 ∨ op = 15 := by
  simp [isTwo] at h; omega
 have e : pt (twoX op a b) = 40 :: (pt a ++ (signT op ++ (pt b ++ [41]))) := by
  rcases h' with rfl | rfl | rfl | rfl | rfl | rfl | rfl | rfl | rfl <;> simp [twoX, pt, ptL, arOk, kidsI, nodeT, isTwo]
 refine ⟨?_, _, rd2_of (rd_two ta.rd.toRd tb.rd.toRd ho) (by decide), ?_, 40, _, e, by decide⟩
 ·rcases h' with rfl | rfl | rfl | rfl | rfl | rfl | rfl | rfl | rfl <;> simp [twoX, okX, okL, arOk, kidsI, nodeOk, oa, ob]
 ·rw [e]
  have l1 : Lexs (pt b ++ [41]) (Kb ++ [mk [41]]) any8 := tb.lx.then (Lexs.end1 (by decide)) (by decide)
  have l2 := hl.app' l1
  have l3 : Lexs (pt a ++ (signT op ++ (pt b ++ [41]))) (Ka ++ ([o] ++ (Kb ++ [mk [41]]))) any8 := by
   rw [er] at l2 ⊢
   exact ta.lx.then l2 (by decide)
  exact (Lexs.one (by decide) l3).any
theorem told_pre {op : Int} {a : Ex'} (h : op = 6 ∨ op = 14) (ha : Told a) : Told (oneX' op [] a) := by
 obtain ⟨oa, Ka, ta⟩ := ha
 have key : ∀ c : UInt8, (c = 33 ∧ op = 6) ∨ (c = 45 ∧ op = 14) → pt (oneX' op [] a) = c :: pt a → Told (oneX' op [] a) := fun c hc e => by
  refine ⟨?_, mk [c] :: Ka, ⟨rd_pre ta.rd.toRd hc, fun h6 h14 => ?_⟩, ?_, c, _, e, by rcases hc with ⟨rfl, _⟩ | ⟨rfl, _⟩ <;> decide⟩
  ·rcases h with rfl | rfl <;> simp [oneX', okX, okL, arOk, kidsI, nodeOk, oa]
  ·rcases h with rfl | rfl
   ·exact absurd rfl h6
   ·exact absurd rfl h14
  ·rw [e]
   obtain ⟨d, r, e2, hd⟩ := ta.fs
   have hne : pt a ≠ [] := by rw [e2]; simp
   have hc1 : onesR.contains c = true := by rcases hc with ⟨rfl, _⟩ | ⟨rfl, _⟩ <;> decide
   refine (Lexs.mark1 hc1).app ta.lx hne fun d' r' e3 => ?_
   rw [e2] at e3
   injection e3 with e3 _
   subst e3
   rcases hc with ⟨rfl, _⟩ | ⟨rfl, _⟩ <;> simp [twosL, hd]
 rcases h with rfl | rfl
 ·exact key 33 (.inl ⟨rfl, rfl⟩) (by simp [oneX', pt, ptL, arOk, kidsI, nodeT, isTwo])
 ·exact key 45 (.inr ⟨rfl, rfl⟩) (by simp [oneX', pt, ptL, arOk, kidsI, nodeT, isTwo])
theorem told_if {a b c : Ex'} (ha : Told a) (hb : Told b) (hc : Told c) : Told (.mk 7 lv0 [] [a, b, c] []) := by
 obtain ⟨oa, Ka, ta⟩ := ha
 obtain ⟨ob, Kb, tb⟩ := hb
 obtain ⟨oc, Kc, tc⟩ := hc
 have e : pt (.mk 7 lv0 [] [a, b, c] []) = 40 :: ([105, 102] ++ 32 :: (pt a ++ 32 :: ([116, 104, 101, 110] ++ 32 :: (pt b ++ 32 :: ([101, 108, 115, 101] ++ 32 :: (pt c ++ [41])))))) := by
  simp [pt, ptL, arOk, kidsI, nodeT, isTwo]
 refine ⟨by simp [okX, okL, arOk, kidsI, nodeOk, oa, ob, oc], _, rd2_of (rd_if ta.rd.toRd tb.rd.toRd tc.rd.toRd) (by decide), ?_, 40, _, e, by decide⟩
 rw [e]
 have l1 : Lexs (pt c ++ [41]) (Kc ++ [mk [41]]) any8 := tc.lx.then (Lexs.end1 (by decide)) (by decide)
 have l2 := Lexs.word (u := [101, 108, 115, 101]) (by decide) l1.sp1 (by decide)
 have l3 := tb.lx.then l2.sp1 (by decide)
 have l4 := Lexs.word (u := [116, 104, 101, 110]) (by decide) l3.sp1 (by decide)
 have l5 := ta.lx.then l4.sp1 (by decide)
 have l6 := Lexs.word (u := [105, 102]) (by decide) l5.sp1 (by decide)
 have l7 := Lexs.one (c := 40) (by decide) l6
 have := l7.any (ok := nLD)
 simpa using this
theorem told_is {t : Str} {a : Ex'} (h : okPath t = true) (ha : Told a) : Told (oneX' 16 t a) := by
 obtain ⟨oa, Ka, ta⟩ := ha
 obtain ⟨ks, hk⟩ := path_tyk h
 have e : pt (oneX' 16 t a) = 40 :: (pt a ++ 32 :: ([105, 115] ++ 32 :: (t ++ [41]))) := by simp [oneX', pt, ptL, arOk, kidsI, nodeT, isTwo]
 refine ⟨by simp [oneX', okX, okL, arOk, kidsI, nodeOk, oa, h], _, rd2_of (rd_is ta.rd.toRd hk) (by decide), ?_, 40, _, e, by decide⟩
 rw [e]
 have l1 : Lexs (t ++ [41]) (ks ++ [mk [41]]) any8 := (path_lexs hk.1).then (Lexs.end1 (by decide)) (by decide)
 have l2 := Lexs.word (u := [105, 115]) (by decide) l1.sp1 (by decide)
 have l3 := ta.lx.then l2.sp1 (by decide)
 have := (Lexs.one (c := 40) (by decide) l3).any (ok := nLD)
 simpa using this
theorem told_has {t : Str} {a : Ex'} (h : nameB t = true) (ha : Told a) : Told (oneX' 17 t a) := by
 obtain ⟨oa, Ka, ta⟩ := ha
 have e : pt (oneX' 17 t a) = 40 :: (pt a ++ 32 :: ([104, 97, 115] ++ 32 :: (t ++ [41]))) := by simp [oneX', pt, ptL, arOk, kidsI, nodeT, isTwo]
 refine ⟨by simp [oneX', okX, okL, arOk, kidsI, nodeOk, oa, h], _, rd2_of (rd_has (t := t) ta.rd.toRd) (by decide), ?_, 40, _, e, by decide⟩
 rw [e]
 have l1 := Lexs.word (u := t) (c := 41) h (Lexs.end1 (by decide)) (by decide)
 have l2 := Lexs.word (u := [104, 97, 115]) (by decide) l1.sp1 (by decide)
 have l3 := ta.lx.then l2.sp1 (by decide)
 have := (Lexs.one (c := 40) (by decide) l3).any (ok := nLD)
 simpa using this
theorem own_tw {a : Ex'} {K : List Wd} (t : TW a K) : Lexs (own1 a.op (pt a)) (ownK a K) nLD ∧ ∃ c r, own1 a.op (pt a) = c :: r ∧ c ≠ 61 := by
 unfold own1 ownK
 by_cases h : a.op = 6 ∨ a.op = 14
 ·rw [if_pos h, if_pos h]
  exact ⟨(Lexs.one (by decide) (t.lx.then (Lexs.end1 (by decide)) (by decide))).any, 40, _, rfl, by decide⟩
 ·rw [if_neg h, if_neg h]
  exact ⟨t.lx, t.fs⟩
theorem own_rd2 {a y : Ex'} {K K2 : List Wd} (t : TW a K) (h : Rd y (ownK a K ++ K2)) : Rd2 y (ownK a K ++ K2) := by
 obtain ⟨w, K0, e, hw⟩ := ownK_ne t.rd.toRd t.rd.ft
 exact ⟨h, fun _ _ => ⟨w, K0 ++ K2, by rw [e]; rfl, hw⟩⟩
theorem fs_app {P Q : Str} (h : ∃ c r, P = c :: r ∧ c ≠ 61) : ∃ c r, P ++ Q = c :: r ∧ c ≠ 61 := by
 obtain ⟨c, r, rfl, hc⟩ := h
 exact ⟨c, r ++ Q, rfl, hc⟩
theorem told_get {t : Str} {a : Ex'} (ha : Told a) : Told (oneX' 18 t a) := by
 obtain ⟨oa, Ka, ta⟩ := ha
 obtain ⟨hl, hf⟩ := own_tw ta
 have ok : okX (oneX' 18 t a) = true := by simp [oneX', okX, okL, arOk, kidsI, nodeOk, oa]
 refine ⟨ok, ?_⟩
 by_cases hn : nameB t = true
 ·have e : pt (oneX' 18 t a) = own1 a.op (pt a) ++ 46 :: t := by simp [oneX', pt, ptL, arOk, kidsI, nodeT, isTwo, hn]
  refine ⟨_, own_rd2 ta (rd_dot (t := t) ta.rd), ?_, by rw [e]; exact fs_app hf⟩
  rw [e]
  exact hl.then (Lexs.one (by decide) (Lexs.name hn)) (by decide)
 ·have e : pt (oneX' 18 t a) = own1 a.op (pt a) ++ 91 :: (quote t ++ [93]) := by simp [oneX', pt, ptL, arOk, kidsI, nodeT, isTwo, hn]
  refine ⟨_, own_rd2 ta (rd_get (t := t) ta.rd), ?_, by rw [e]; exact fs_app hf⟩
  rw [e]
  exact (hl.then (Lexs.one (by decide) ((Lexs.quoted t).app' (Lexs.end1 (by decide)))) (by decide)).any
theorem told_meth {op : Int} {a b : Ex'} (h : op = 21 ∨ op = 22 ∨ op = 23) (ha : Told a) (hb : Told b) : Told (twoX op a b) := by
 obtain ⟨oa, Ka, ta⟩ := ha
 obtain ⟨ob, Kb, tb⟩ := hb
 obtain ⟨hl, hf⟩ := own_tw ta
 have key : ∀ m : Str, nameB m = true → methI m = op → pt (twoX op a b) = own1 a.op (pt a) ++ 46 :: (m ++ 40 :: (pt b ++ [41])) → okX (twoX op a b) = true → op ≠ 0 → Told (twoX op a b) := fun m hm hi e ok h0 => by
  refine ⟨ok, _, own_rd2 ta (rd_meth ta.rd tb.rd.toRd hi h0), ?_, by rw [e]; exact fs_app hf⟩
  rw [e]
  have l1 : Lexs (pt b ++ [41]) (Kb ++ [mk [41]]) any8 := tb.lx.then (Lexs.end1 (by decide)) (by decide)
  exact (hl.then (Lexs.one (by decide) (Lexs.word hm (Lexs.one (by decide) l1) (by decide))) (by decide)).any
 rcases h with rfl | rfl | rfl
 ·exact key [99, 111, 110, 116, 97, 105, 110, 115] (by decide) (by decide) (by simp [twoX, pt, ptL, arOk, kidsI, nodeT, isTwo, methT]) (by simp [twoX, okX, okL, arOk, kidsI, nodeOk, oa, ob]) (by decide)
 ·exact key [99, 111, 110, 116, 97, 105, 110, 115, 65, 108, 108] (by decide) (by decide) (by simp [twoX, pt, ptL, arOk, kidsI, nodeT, isTwo, methT]) (by simp [twoX, okX, okL, arOk, kidsI, nodeOk, oa, ob]) (by decide)
 ·exact key [99, 111, 110, 116, 97, 105, 110, 115, 65, 110, 121] (by decide) (by decide) (by simp [twoX, pt, ptL, arOk, kidsI, nodeT, isTwo, methT]) (by simp [twoX, okX, okL, arOk, kidsI, nodeOk, oa, ob]) (by decide)
end Go.Proofs.YtoelfmmfjebabaaGreatDoor
namespace Go.Proofs.YtoelfmmfjebabaaGreatDoor
open Go Go.Eng
set_option maxHeartbeats 1000000
set_option linter.unusedSimpArgs false
set_option linter.unusedVariables false
set_option maxRecDepth 20000
theorem items_ex : ∀ (ks : List Ex') (ns : List Str), ns.length = ks.length → (∀ k ∈ ks, Told k) → ∃ l : List It, l.map It.x = ks ∧ l.map It.n = ns ∧ ∀ j ∈ l, TW j.x j.K
 | [], [], _, _ => ⟨[], rfl, rfl, fun j hj => by cases hj⟩
 | [], _ :: _, h, _ => by simp at h
 | _ :: _, [], h, _ => by simp at h
 | k :: ks, n :: ns, h, hk => by
  obtain ⟨l, h1, h2, h3⟩ := items_ex ks ns (by simpa using h) fun x hx => hk x (List.mem_cons_of_mem _ hx)
  obtain ⟨-, K, t⟩ := hk k List.mem_cons_self
  refine ⟨⟨n, k, K⟩ :: l, by rw [List.map_cons, h1], by rw [List.map_cons, h2], fun j hj => ?_⟩
  rcases List.mem_cons.1 hj with rfl | hj
  ·exact t
  ·exact h3 j hj
theorem ptL_map : ∀ l : List Ex', ptL l = l.map pt
 | [] => rfl
 | x :: l => by rw [ptL, ptL_map l]; rfl
theorem okL_of : ∀ {l : List Ex'}, (∀ k ∈ l, Told k) → okL l = true
 | [], _ => rfl
 | x :: l, h => by rw [okL, (h x List.mem_cons_self).1, okL_of fun k hk => h k (List.mem_cons_of_mem _ hk)]; rfl
section
variable {op : Int} {ahead : Nat → Str}
theorem more_lexs (hop : op = 19 ∨ op = 20) : ∀ (l : List It) (i : Nat), 0 < i → (∀ (k : Nat) (j : It), l[k]? = some j → TW j.x j.K ∧ ∀ (Q : Str) (kq : List Wd), Lexs Q kq any8 → Lexs (ahead (i + k) ++ Q) (hdK op j.n ++ kq) any8) →
  Lexs (rowT ahead i (l.map fun j => pt j.x) ++ endOf op) (moreK op l ++ [mk (endOf op)]) any8 ∧ ∃ c r, rowT ahead i (l.map fun j => pt j.x) ++ endOf op = c :: r ∧ isLD c = false
 | [], i, hi, _ => by
  rcases hop with rfl | rfl
  ·exact ⟨Lexs.end1 (by decide), 93, [], rfl, by decide⟩
  ·exact ⟨Lexs.end1 (by decide), 125, [], rfl, by decide⟩
 | j :: l, i, hi, h => by
  obtain ⟨t, ha⟩ := h 0 j rfl
  obtain ⟨h1, c, r, e, hc⟩ := more_lexs hop l (i + 1) (by omega) fun k j' hk => by
   have := h (k + 1) j' (by simpa using hk)
   rwa [show i + (k + 1) = i + 1 + k by omega] at this
  rw [List.map_cons, rowT, if_pos hi]
  rw [e] at h1
  have h2 := t.lx.then h1 hc
  have h3 := Lexs.one (c := 44) (by decide) (ha _ _ h2).sp1
  rw [← e] at h3
  refine ⟨?_, 44, _, rfl, by decide⟩
  have : [44, 32] ++ (ahead i ++ (pt j.x ++ rowT ahead (i + 1) (l.map fun j => pt j.x))) ++ endOf op = 44 :: 32 :: (ahead (i + 0) ++ (pt j.x ++ (rowT ahead (i + 1) (l.map fun j => pt j.x) ++ endOf op))) := by simp
  rw [this]
  have e2 : moreK op (j :: l) ++ [mk (endOf op)] = mk [44] :: (hdK op j.n ++ (j.K ++ (moreK op l ++ [mk (endOf op)]))) := by simp [moreK]
  rw [e2]
  exact h3
theorem row_lexs (hop : op = 19 ∨ op = 20) (l : List It) (h : ∀ (k : Nat) (j : It), l[k]? = some j → TW j.x j.K ∧ ∀ (Q : Str) (kq : List Wd), Lexs Q kq any8 → Lexs (ahead k ++ Q) (hdK op j.n ++ kq) any8) : Lexs (rowT ahead 0 (l.map fun j => pt j.x) ++ endOf op) (rowK op l ++ [mk (endOf op)]) any8 := by
 cases l with
 | nil =>
  rcases hop with rfl | rfl
  ·exact Lexs.end1 (by decide)
  ·exact Lexs.end1 (by decide)
 | cons j l =>
  obtain ⟨t, ha⟩ := h 0 j rfl
  obtain ⟨h1, c, r, e, hc⟩ := more_lexs (ahead := ahead) hop l 1 (by omega) fun k j' hk => by
   have := h (k + 1) j' (by simpa using hk)
   rwa [show k + 1 = 1 + k by omega] at this
  rw [e] at h1
  have h2 := ha _ _ (t.lx.then h1 hc)
  rw [← e] at h2
  rw [List.map_cons, rowT, if_neg (by omega)]
  have : [] ++ (ahead 0 ++ (pt j.x ++ rowT ahead (0 + 1) (l.map fun j => pt j.x))) ++ endOf op = ahead 0 ++ (pt j.x ++ (rowT ahead 1 (l.map fun j => pt j.x) ++ endOf op)) := by simp
  rw [this]
  have e2 : rowK op (j :: l) ++ [mk (endOf op)] = hdK op j.n ++ (j.K ++ (moreK op l ++ [mk (endOf op)])) := by simp [rowK]
  rw [e2]
  exact h2
end
theorem told_row {op : Int} (hop : op = 19 ∨ op = 20) (l : List It) (ht : ∀ j ∈ l, TW j.x j.K) (hk : ∀ k ∈ l.map It.x, Told k) : Told (.mk op lv0 [] (l.map It.x) (nsF op [] l)) := by
 have hr := rd_items hop l fun j hj => (ht j hj).rd.toRd
 have e1 : ptL (l.map It.x) = l.map fun j => pt j.x := by rw [ptL_map, List.map_map]; rfl
 have hok := okL_of hk
 have one : ∀ Q kq, Lexs Q kq any8 → ∀ n : Str, Lexs ((quote n ++ [58, 32]) ++ Q) ([(3, n, 0), mk [58]] ++ kq) any8 := fun Q kq hQ n => by
  have h1 : Lexs ([58] ++ ([32] ++ Q)) ([mk [58]] ++ kq) any8 := (Lexs.mark1 (by decide)).app hQ.sp1 (by simp) (fun c r e => by injection e with e1 _; subst e1; decide)
  have := (Lexs.quoted n).app' h1
  simpa using this
 rcases hop with rfl | rfl
 ·have e : pt (.mk 19 lv0 [] (l.map It.x) (nsF 19 [] l)) = 91 :: (rowT (fun _ => []) 0 (l.map fun j => pt j.x) ++ [93]) := by
   rw [← e1]; simp [pt, arOk, kidsI, nodeT, isTwo, nsF]
  refine ⟨by simp [okX, arOk, kidsI, nodeOk, hok, nsF], _, rd2_of hr (by decide), ?_, 91, _, e, by decide⟩
  rw [e]
  exact (Lexs.one (by decide) (row_lexs (.inl rfl) l fun k j hj => ⟨ht j (List.mem_of_getElem? hj), fun Q kq h => by simpa [hdK] using h⟩)).any
 ·have e : pt (.mk 20 lv0 [] (l.map It.x) (nsF 20 [] l)) = 123 :: (rowT (fun i => quote ((l.map It.n).getD i []) ++ [58, 32]) 0 (l.map fun j => pt j.x) ++ [125]) := by
   rw [← e1]; simp [pt, arOk, kidsI, nodeT, isTwo, nsF]
  refine ⟨by simp [okX, arOk, kidsI, nodeOk, hok, nsF], _, rd2_of hr (by decide), ?_, 123, _, e, by decide⟩
  rw [e]
  refine (Lexs.one (by decide) (row_lexs (.inr rfl) l fun k j hj => ⟨ht j (List.mem_of_getElem? hj), fun Q kq h => ?_⟩)).any
  have en : (l.map It.n).getD k [] = j.n := by rw [List.getD_eq_getElem?_getD, List.getElem?_map, hj]; rfl
  show Lexs (quote ((l.map It.n).getD k []) ++ [58, 32] ++ Q) _ _
  rw [en]
  exact one Q kq h j.n
theorem told_all {x : Ex'} (h : Tol x) : Told x := by
 induction h with
 | bool b => exact told_bool b
 | num h0 h1 => exact told_num h0 h1
 | txt t => exact told_txt t
 | ref id h => exact told_ref id h
 | var h => exact told_var h
 | slot h => exact told_slot h
 | two h _ _ ha hb => exact told_two h ha hb
 | pre h _ ha => exact told_pre h ha
 | ite _ _ _ ha hb hc => exact told_if ha hb hc
 | is' h _ ha => exact told_is h ha
 | has' h _ ha => exact told_has h ha
 | get _ ha => exact told_get ha
 | @set ks _ hk =>
  obtain ⟨l, h1, h2, h3⟩ := items_ex ks (ks.map fun _ => []) (by simp) hk
  have := told_row (.inl rfl) l h3 (by rw [h1]; exact hk)
  rw [h1] at this
  exact this
 | @rcd ns ks hl _ hk =>
  obtain ⟨l, h1, h2, h3⟩ := items_ex ks ns hl hk
  have := told_row (.inr rfl) l h3 (by rw [h1]; exact hk)
  rw [h1] at this
  have e : nsF 20 [] l = ns := by unfold nsF; rw [if_pos rfl, h2]; rfl
  rw [e] at this
  exact this
 | meth h _ _ ha hb => exact told_meth h ha hb
theorem told_read {x : Ex'} (h : Tol x) : okX x = true ∧ ∃ l, words (pt x) = .ok l ∧ ((readS l 0 = (x, (l.length : Int) - 1, 0, 0)) ∨ ((readS l 0).2.2.1 = 11 ∧ 50 < 3 * (depX x : Int) + 1)) ∧ ((wdAt l ((l.length : Int) - 1)).1.1 : Int) = 0 := by
 obtain ⟨ok, K, t⟩ := told_all h
 obtain ⟨l, hw, hk⟩ := t.lx.words
 have hl : l.length = K.length + 1 := by have := congrArg List.length hk; rwa [List.length_map, List.length_append, List.length_singleton] at this
 have hA : At l (st0 0) (K ++ (0, [], 0) :: []) := At.of hk 0
 have hE := (hA.dropN).hd
 have ep : (mvn (st0 0) K.length).p = (l.length : Int) - 1 := by show (0 : Int) + K.length = _; omega
 rw [ep] at hE
 refine ⟨ok, l, hw, ?_, by rw [hE]; rfl⟩
 have hr := t.rd.toRd.expr (s := st0 0) (Int.le_refl 0) hA (by decide)
 obtain ⟨n, hn⟩ := runG_ex l .expr (st0 0)
 unfold readS
 rcases hr n _ hn with e | ⟨e, hb⟩
 ·rw [e, if_pos (show (mvn (st0 0) K.length).e = 0 from rfl)]
  exact .inl (by rw [← ep])
 ·rw [if_neg (by rw [e]; decide)]
  exact .inr ⟨e, by have : (st0 0).deep = 0 := rfl; omega⟩
end Go.Proofs.YtoelfmmfjebabaaGreatDoor
namespace Go.Proofs.YtoelfmmfjebabaaGreatDoor
open Go Go.Eng
set_option maxHeartbeats 1000000
set_option linter.unusedSimpArgs false
set_option linter.unusedVariables false
set_option maxRecDepth 20000
theorem told_parse {x : Ex'} (h : Tol x) (hd : depX x ≤ 50) : okX x = true ∧ (parseS (pt x) = (x, 0, 0) ∨ ((parseS (pt x)).2.1 = 11 ∧ 50 < 3 * (depX x : Int) + 1) ∨ ((parseS (pt x)).2.1 = 12 ∧ 65536 < (pt x).length)) := by
 obtain ⟨ok, l, hw, hr, hk⟩ := told_read h
 refine ⟨ok, ?_⟩
 by_cases hl : 65536 < (pt x).length
 ·refine .inr (.inr ⟨?_, hl⟩)
  unfold parseS; rw [if_pos hl]
 ·have e : parseS (pt x) = parseL l (readS l 0) := by unfold parseS; rw [if_neg hl, hw]
  rw [e]
  unfold parseL
  rcases hr with hr | ⟨hr, hb⟩
  ·rw [hr]
   dsimp only
   rw [if_neg (by decide), hk, if_neg (by decide), if_neg (by omega)]
   exact .inl rfl
  ·rw [if_pos (by rw [hr]; decide), hr]
   exact .inr (.inl ⟨rfl, hb⟩)
end Go.Proofs.YtoelfmmfjebabaaGreatDoor
namespace Go.Proofs.YtoelfmmfjebabaaGreatDoor
open Go Go.Eng
set_option maxHeartbeats 1000000
set_option linter.unusedSimpArgs false
set_option linter.unusedVariables false
set_option maxRecDepth 20000
abbrev ctxN : Str := [99, 111, 110, 116, 101, 120, 116]
def cxX : Ex' := .mk 2 lv0 ctxN [] []
def txX (t : Str) : Ex' := .mk 1 ⟨3, false, 0, t, [], []⟩ [] [] []
def rcX (a b c : Str) : Ex' := .mk 20 lv0 [] [cxX, txX b] [a, c]
def nmX (a b c : Str) : Ex' := .mk 18 lv0 a [rcX a b c] []
theorem nm_tol (a b c : Str) : Tol (nmX a b c) := .get (.rcd rfl fun k hk => by
 simp only [List.mem_cons, List.not_mem_nil, or_false] at hk
 rcases hk with rfl | rfl
 ·exact .var (by simp [varL])
 ·exact .txt b)
theorem nm_dep (a b c : Str) : depX (nmX a b c) = 3 := by simp [nmX, rcX, cxX, txX, depX, depXL]
theorem nm_wt {a b c : Str} (ha : a.length ≤ 200) (hb : b.length ≤ 200) (hc : c.length ≤ 200) : wt (nmX a b c) ≤ 1000 := by
 simp [nmX, rcX, cxX, txX, wt, wtL, lv0]; omega
abbrev nV : Value := .slice none 0 0
def lf (op : Int) (v : LV) (nm : Str) : List Value := xcells op v nV nV nm nV nV
theorem lf_rep (F : Base) {op : Int} {v : LV} {nm : Str} (h1 : I64 op) (h2 : I64 v.kind) (h3 : I64 v.n) : RepP F (lf op v nm) (.mk op v nm [] []) :=
 .mk op v nm none 0 [] (fun _ => []) nV [] h1 h2 h3 (by decide) (by decide) (fun i t h => by simp at h) (fun i t h => by simp at h) slS_nil
theorem i6 : ∀ n : Int, -100 ≤ n → n ≤ 100 → I64 n := fun n h1 h2 => by unfold I64; omega
theorem nm_rep {F : Base} {b1 b2 b3 T1 T2 T3 : Nat} {a b c : Str} (ha : a.length ≤ 200) (hc : c.length ≤ 200)
  (h1 : F b1 = some (.cells #[.string (bs a), .string (bs c)] T1 (0, 0))) (h2 : F b2 = some (.cells (lf 2 lv0 ctxN ++ lf 1 ⟨3, false, 0, b, [], []⟩ []).toArray T2 (0, 0)))
  (h3 : F b3 = some (.cells (xcells 20 lv0 nV nV [] (.slice (some ⟨b2, 0, none⟩) 2 2) (.slice (some ⟨b1, 0, none⟩) 2 2)).toArray T3 (0, 0))) :
  RepP F (xcells 18 lv0 nV nV a (.slice (some ⟨b3, 0, none⟩) 1 1) nV) (nmX a b c) := by
 have k0 : I64 lv0.kind := i6 _ (by decide) (by decide)
 have k1 : I64 lv0.n := i6 _ (by decide) (by decide)
 have r1 := lf_rep F (op := 2) (v := lv0) (nm := ctxN) (i6 _ (by decide) (by decide)) k0 k1
 have r2 := lf_rep F (op := 1) (v := ⟨3, false, 0, b, [], []⟩) (nm := []) (i6 _ (by decide) (by decide)) (i6 3 (by decide) (by decide)) (i6 0 (by decide) (by decide))
 have hs : SlS F (.slice (some ⟨b1, 0, none⟩) 2 2) [a, c] := slsN (l := [a, c]) h1 (by simp) (fun x hx => by
  simp only [List.mem_cons, List.not_mem_nil, or_false] at hx
  rcases hx with rfl | rfl <;> omega)
 have rr : RepP F (xcells 20 lv0 nV nV [] (.slice (some ⟨b2, 0, none⟩) 2 2) (.slice (some ⟨b1, 0, none⟩) 2 2)) (rcX a b c) := by
  refine .mk 20 lv0 [] (some ⟨b2, 0, none⟩) 2 [cxX, txX b] (fun i => if i = 0 then lf 2 lv0 ctxN else lf 1 ⟨3, false, 0, b, [], []⟩ []) _ [a, c] (i6 _ (by decide) (by decide)) k0 k1 (by simp) (by simp) (fun i t h => ?_) (fun i t h => ?_) hs
  ·rcases i with _ | _ | i
   ·exact ⟨b2, 0, _, _, _, rfl, h2, by simp [lf, xcells], by simp [lf, xcells]⟩
   ·exact ⟨b2, 0, _, _, _, rfl, h2, by simp [lf, xcells], by simp [lf, xcells]⟩
   ·simp at h
  ·rcases i with _ | _ | i
   ·simp only [List.getElem?_cons_zero, Option.some.injEq] at h; subst h; exact r1
   ·simp only [List.getElem?_cons_succ, List.getElem?_cons_zero, Option.some.injEq] at h; subst h; exact r2
   ·simp at h
 refine .mk 18 lv0 a (some ⟨b3, 0, none⟩) 1 [rcX a b c] (fun _ => xcells 20 lv0 nV nV [] (.slice (some ⟨b2, 0, none⟩) 2 2) (.slice (some ⟨b1, 0, none⟩) 2 2)) _ [] (i6 _ (by decide) (by decide)) k0 k1 (by simp) (by simp) (fun i t h => ?_) (fun i t h => ?_) slS_nil
 ·rcases i with _ | i
  ·exact ⟨b3, 0, _, _, _, rfl, h3, by simp [xcells], by simp [xcells]⟩
  ·simp at h
 ·rcases i with _ | i
  ·simp only [List.getElem?_cons_zero, Option.some.injEq] at h; subst h; exact rr
  ·simp at h
set_option maxHeartbeats 4000000 in
theorem names_law (F : Base) (hg : HasMarks F) (hM : HasM F) (hMx : HasMx F) (hS : HasSigns F) (a b c : Str) (la : a.length ≤ 9223372036854775807) (lb : b.length ≤ 9223372036854775807) (lc : c.length ≤ 9223372036854775807) : PureV Tryz.prog F 4 #[.string (bs a), .string (bs b), .string (bs c)] (.bool true) := by
 refine pureV_of_svc (args := [.string (bs a), .string (bs b), .string (bs c)]) mixed Tryz.func4 low4 (Nat.le_of_ble_eq_true rfl) (fun w0 => ?_)
 simp only [*, fu4, ↓ZD, ZW, RO, simprocAttr]
 refine CallE.pure (awake_pure hM hS) ?_
 simp only [*, ↓ZD, ZW, RO, simprocAttr]
 intro hl
 have hl : a.length ≤ 200 ∧ b.length ≤ 200 ∧ c.length ≤ 200 := by simp at hl; omega
 obtain ⟨ha, hb, hc⟩ := hl
 refine NewB.n ?_
 rintro b8 - hF8
 simp only [*, ↓ZD, ZW, RO, simprocAttr]
 refine NewB.n ?_
 rintro b1 ⟨_, _, -⟩ hF1
 simp only [*, ↓ZD, ZW, RO, simprocAttr]
 refine NewB.n ?_
 rintro b2 ⟨_, _, _, _, -⟩ hF2
 simp only [*, ↓ZD, ZW, RO, simprocAttr]
 refine NewB.n ?_
 rintro b3 ⟨_, _, _, _, _, _, -⟩ hF3
 simp only [*, ↓ZD, ZW, RO, simprocAttr]
 refine NewB.n ?_
 rintro b9 ⟨_, _, _, _, _, _, _, _, -⟩ hF9
 simp only [*, ↓ZD, ZW, RO, simprocAttr]
 have rp := nm_rep (F := rdObj F [(b9, .cells (xcells 18 lv0 nV nV a (.slice (some ⟨b3, 0, none⟩) 1 1) nV).toArray 31 (0, 0)), (b3, .cells (xcells 20 lv0 nV nV [] (.slice (some ⟨b2, 0, none⟩) 2 2) (.slice (some ⟨b1, 0, none⟩) 2 2)).toArray 31 (0, 0)), (b2, .cells (lf 2 lv0 ctxN ++ lf 1 ⟨3, false, 0, b, [], []⟩ []).toArray 31 (0, 0)), (b1, .cells #[.string (bs a), .string (bs c)] 9 (0, 0)), (b8, .cells (lf 2 lv0 ctxN).toArray 31 (0, 0))])
  (b1 := b1) (b2 := b2) (b3 := b3) (T1 := 9) (T2 := 31) (T3 := 31) (b := b) ha hc (by simp only [*, ↓ZD, ZW, RO, simprocAttr]; try rfl) (by simp only [*, ↓ZD, ZW, RO, simprocAttr]; try rfl) (by simp only [*, ↓ZD, ZW, RO, simprocAttr]; try rfl)
 have hwt := nm_wt ha hb hc
 have hpl := pt_len rp.toX
 have hx := pexpr_pure (hM.mono le_up) (hS.mono le_up) rp.toX (by omega)
 obtain ⟨ok, hp⟩ := told_parse (nm_tol a b c) (by rw [nm_dep]; decide)
 rw [nm_dep] at hp
 have hp : parseS (pt (nmX a b c)) = (nmX a b c, 0, 0) := by
  rcases hp with h | ⟨_, h⟩ | ⟨_, h⟩
  ·exact h
  ·omega
  ·omega
 have et : ptx (nmX a b c) = (pt (nmX a b c), 0) := by unfold ptx; rw [nm_dep, if_neg (by decide), if_pos ok]
 rw [et] at hx
 refine CallE.pureH hx ?_
 simp only [*, ↓ZD, ZW, RO, simprocAttr]
 refine CallE.mk0 (parse_does F hg hMx (pt (nmX a b c)) (by omega)) ?_
 rw [hp]
 clear hx hp et ok hpl hwt
 rintro _ H1 ⟨cs, rfl, ⟨o1, o2, o3, o4⟩, hr⟩ dj
 replace rp := rp.mono fun b o h => rdObj_app1 (Hx := H1) h
 replace hr := hr.mono fun b o h => rdObj_r (Dj.iff.1 dj) h
 simp only [Dj_cons, Dj_nil] at dj
 simp only [*, ↓ZD, ZW, RO, simprocAttr]
 refine NewB.n ?_
 intro b12 h12 hF12
 replace rp := rp.mono fun b o h => rdObj_r (G := [(b12, .cells cs.toArray 31 (0, 0))]) (fun e he e' he' => by rw [List.mem_singleton.1 he]; exact h12.all e' he') h
 replace hr := hr.mono fun b o h => rdObj_r (G := [(b12, .cells cs.toArray 31 (0, 0))]) (fun e he e' he' => by rw [List.mem_singleton.1 he]; exact h12.all e' he') h
 simp only [Nb_cons, Nb_nil] at h12
 simp only [*, beq_self_eq_true, eq_self, ↓ZD, ZW, RO, simprocAttr]
 refine CallQ.of _ (same_pure _ rp hr) ?_
 simp only [*, ↓ZD, ZW, RO, simprocAttr]
end Go.Proofs.YtoelfmmfjebabaaGreatDoor
namespace Go.Proofs.YtoelfmmfjebabaaGreatDoor
open Go
set_option maxRecDepth 100000
def L4 : List (String × DataW Unit) := [("unicode/utf8.acceptRanges", Rows.laid_unicode_utf8_acceptRanges), ("chamberlain/lex.marks", Rows.laid_chamberlain_lex_marks), ("chamberlain/printer.signs", Rows.laid_chamberlain_printer_signs), ("unicode/utf8.first", Rows.laid_unicode_utf8_first)]
theorem L4m : (L4.filter fun x => x.1 == "chamberlain/lex.marks") = [("chamberlain/lex.marks", Rows.laid_chamberlain_lex_marks)] := by kernel_rfl
theorem L4s : (L4.filter fun x => x.1 != "chamberlain/lex.marks") = [("unicode/utf8.acceptRanges", Rows.laid_unicode_utf8_acceptRanges), ("chamberlain/printer.signs", Rows.laid_chamberlain_printer_signs), ("unicode/utf8.first", Rows.laid_unicode_utf8_first)] := by kernel_rfl
theorem marks4 {w : World} (h : laidMetH Tryz.prog L4 w) : HasMarks (fun b => w.heap[b]?) := by
 have := h.filter fun x => x.1 == "chamberlain/lex.marks"
 rw [L4m] at this
 exact hasMarks_of this
theorem signs4 {w : World} (h : laidMetH Tryz.prog L4 w) : HasSigns (fun b => w.heap[b]?) := by
 have := h.filter fun x => x.1 != "chamberlain/lex.marks"
 rw [L4s] at this
 exact hasSigns_of (by kernel_rfl) (by kernel_rfl) this
noncomputable def W0 (os : Os) : World := (World.doorLaid Tryz.prog 69 os).layVars Tryz.prog [("chamberlain/lex.marks", Rows.laid_chamberlain_lex_marks), ("unicode/utf8.first", Rows.laid_unicode_utf8_first)]
theorem W0_os (os : Os) : (W0 os).os = os := World.layVars_os _ _ _
theorem L4a : (L4.filter fun x => ["chamberlain/lex.marks", "unicode/utf8.first"].contains x.1) = [("chamberlain/lex.marks", Rows.laid_chamberlain_lex_marks), ("unicode/utf8.first", Rows.laid_unicode_utf8_first)] := by kernel_rfl
theorem L4b : (L4.filter fun x => !["chamberlain/lex.marks", "unicode/utf8.first"].contains x.1) = [("unicode/utf8.acceptRanges", Rows.laid_unicode_utf8_acceptRanges), ("chamberlain/printer.signs", Rows.laid_chamberlain_printer_signs)] := by kernel_rfl
theorem laid_W0 (os : Os) (args : Array Value) : laidMetH Tryz.prog L4 ((W0 os).forCall (fun _ _ => 0) ⟨#[], args, []⟩).memory := by
 rw [MakeChecks.laidMetH_plain _ _ _ (by kernel_rfl)]
 have h : laidMet Tryz.prog L4 (W0 os) := laidMet_layVars (w0 := World.doorLaid Tryz.prog 69 os) ["chamberlain/lex.marks", "unicode/utf8.first"] [4, 0, 10] (by rw [L4a]; rfl) (by rw [L4a]; kernel_rfl) (by rw [L4a]; kernel_rfl)
  (by rw [L4b]; exact LaidIn.of_run [4, 0, 10] 8 (by kernel_rfl) (by kernel_rfl) (by kernel_rfl) (by kernel_rfl))
 exact h.of_heap (by simp [World.memory, World.forCall, Input.heap])
end Go.Proofs.YtoelfmmfjebabaaGreatDoor
namespace Go.Proofs.YtoelfmmfjebabaaGreatDoor
open Go Go.Eng
set_option maxHeartbeats 1000000
set_option linter.unusedSimpArgs false
set_option linter.unusedVariables false
set_option maxRecDepth 20000
def WdOk (w : Wd) : Prop := (w.1 = 1 → nameB w.2.1 = true) ∧ (w.1 = 2 → 0 ≤ w.2.2 ∧ w.2.2 ≤ 9223372036854775807)
theorem nameX_ok {s : Str} (h : isL (s.getD 0 0) = true) : nameB (nameX s) = true := by
 cases s with
 | nil => revert h; decide
 | cons c r =>
  have hc : isL c = true := h
  rw [nameX, if_pos hc, nameB, hc, Bool.true_and]
  exact List.all_eq_true.2 fun x hx => by
   have : ∀ (r : Str), x ∈ r.takeWhile isLD → isLD x = true := fun r => by
    induction r with
    | nil => intro h; cases h
    | cons d r ih =>
     intro h
     rw [List.takeWhile_cons] at h
     split at h
     ·rename_i hd
      rcases List.mem_cons.1 h with rfl | h
      ·exact hd
      ·exact ih h
     ·cases h
   exact this r hx
theorem readD_ok (l : Str) (h : (readD false l).2 = 0) : 0 ≤ (readD false l).1 ∧ (readD false l).1 ≤ 9223372036854775807 := by
 have key : ∀ v : Nat, (fitR (v : Int)).2 = 0 → 0 ≤ (fitR (v : Int)).1 ∧ (fitR (v : Int)).1 ≤ 9223372036854775807 := fun v => by
  unfold fitR
  split
  ·rename_i hf; intro _; exact ⟨by show (0 : Int) ≤ v; omega, hf.2⟩
  ·intro h; exact absurd h (show ¬ (14 : Int) = 0 by decide)
 unfold readD at h ⊢
 split
 ·rename_i hn
  rw [if_pos hn] at h
  exact absurd h (by decide)
 ·rename_i hn
  rw [if_neg hn] at h
  exact key _ h
theorem tokT_ok {s : Str} {w : Wd} {m : Nat} (h : tok s = .ok (w, m)) : WdOk w := by
 unfold tok at h
 split at h
 ·cases h
 ·rename_i he
  split at h
  ·cases h
  ·simp only [Except.ok.injEq, Prod.mk.injEq] at h
   obtain ⟨rfl, -⟩ := h
   unfold oneX at he ⊢
   split
   ·rename_i hl; exact ⟨fun _ => nameX_ok hl, fun e => absurd e (by simp)⟩
   rename_i hl
   rw [if_neg hl] at he
   split
   ·rename_i hd
    rw [if_pos hd] at he
    exact ⟨fun e => absurd e (by simp), fun _ => readD_ok _ (by simpa using he)⟩
   repeat' split
   all_goals exact ⟨fun e => absurd e (by simp), fun e => absurd e (by simp)⟩
theorem w1T_ok : ∀ (n a : Nat) (s : Str) (l : List (Wd × Nat)), w1 n a s = .ok l → ∀ w ∈ l, WdOk w.1
 | 0, _, s, l, h => by
  rw [w1] at h; injection h with h; subst h; intro w hw; cases hw
 | n + 1, a, s, l, h => by
  rw [w1] at h
  split at h
  ·injection h with h; subst h
   intro w hw
   rw [List.mem_singleton.1 hw]
   exact ⟨fun e => absurd e (by simp), fun e => absurd e (by simp)⟩
  ·split at h
   ·cases h
   ·rename_i w m hk
    split at h
    ·cases h
    ·rename_i l' hl
     injection h with h; subst h
     intro v hv
     rcases List.mem_cons.1 hv with rfl | hv
     ·exact tokT_ok hk
     ·exact w1T_ok n _ _ l' hl v hv
def WsT (ws : Ws) : Prop := ∀ p : Int, WdOk (wdAt ws p).1
def NTok : NT → Prop
 | .rows _ x => Tol x
 | .mems x => Tol x
 | .its op ns ks => (op = 19 ∧ ns = [] ∨ op = 20 ∧ ns.length = ks.length) ∧ ∀ k, k ∈ ks → Tol k
 | _ => True
def ToldG (g : NT → St → Option (Ex' × St)) : Prop := ∀ nt s y, g nt s = some y → y.2.e = 0 → NTok nt → Tol y.1
theorem take_ok {ws : Ws} {s : St} {k : Int} (h : (takeS ws s k).2.e = 0) : (takeS ws s k).1 = wtx ws s ∧ wk ws s = k := by
 unfold takeS at h ⊢
 split at h
 ·rename_i hc
  rw [if_pos hc]
  exact ⟨rfl, hc.2⟩
 ·exact absurd h (failS_e (by decide))
theorem take_name_ok {ws : Ws} (hT : WsT ws) {s : St} (h : (takeS ws s 1).2.e = 0) : nameB (takeS ws s 1).1 = true := by
 obtain ⟨e, hk⟩ := take_ok h
 rw [e]
 exact (hT s.p).1 (by unfold wk at hk; omega)
theorem pathB_nm {s : Str} (h : nameB s = true) : pathB s = true := by
 rw [pathB_miss (idx_no fun j => ?_)]
 ·exact h
 ·cases hc : Go.Lib.occAt s cc j with
  | false => rfl
  | true =>
   obtain ⟨l1, c1, -⟩ := (occ_iff s j).mp hc
   have k : isLD 58 = false := by decide
   have hl : isL 58 = false := by decide
   rw [nameB_all, Bool.and_eq_true] at h
   have := List.all_eq_true.1 h.2 58 (by rw [← c1, List.getD_eq_getElem?_getD, List.getElem?_eq_getElem (by omega)]; exact List.getElem_mem _)
   rw [k] at this; cases this
end Go.Proofs.YtoelfmmfjebabaaGreatDoor
namespace Go.Proofs.YtoelfmmfjebabaaGreatDoor
open Go Go.Eng
set_option maxHeartbeats 1000000
set_option linter.unusedSimpArgs false
set_option linter.unusedVariables false
set_option linter.unusedSectionVars false
set_option maxRecDepth 20000
theorem nm_58 {t : Str} (ht : nameB t = true) : ∀ c ∈ t, c ≠ 58 := by
 rintro c hc rfl
 have k : isLD 58 = false := by decide
 rw [nameB_all, Bool.and_eq_true] at ht
 have := List.all_eq_true.1 ht.2 58 hc
 rw [k] at this; cases this
theorem path_cons {t u : Str} (ht : nameB t = true) : pathB (t ++ 58 :: 58 :: u) = pathB u := by
 have hi : Go.Lib.index (t ++ 58 :: 58 :: u) cc = t.length := by
  refine idx_at ((occ_iff _ _).2 ⟨by simp, ?_, ?_⟩) fun j hj => ?_
  ·rw [List.getD_eq_getElem?_getD, List.getElem?_append_right (Nat.le_refl _), Nat.sub_self]; rfl
  ·rw [List.getD_eq_getElem?_getD, List.getElem?_append_right (by omega), show t.length + 1 - t.length = 1 by omega]; rfl
  ·cases hc : Go.Lib.occAt (t ++ 58 :: 58 :: u) cc j with
   | false => rfl
   | true =>
    obtain ⟨-, c1, -⟩ := (occ_iff _ _).mp hc
    rw [List.getD_eq_getElem?_getD, List.getElem?_append_left hj, List.getElem?_eq_getElem hj] at c1
    exact absurd c1 (nm_58 ht _ (List.getElem_mem hj))
 rw [pathB_hit hi, List.take_left' rfl, ht, Bool.true_and]
 congr 1
 rw [← List.drop_drop, List.drop_left' rfl]; rfl
theorem fst_nm {t u : Str} (ht : nameB t = true) (hu : u = [] ∨ ∃ r, u = 58 :: r) : fst58 (t ++ u) = t := by
 unfold fst58
 rw [List.takeWhile_append_of_pos (fun c hc => by have := nm_58 ht c hc; simpa using this)]
 rcases hu with rfl | ⟨r, rfl⟩
 ·simp
 ·rw [List.takeWhile_cons, if_neg (by decide), List.append_nil]
def WsL (ws : Ws) : Prop := ∀ w ∈ ws, WdOk w.1
theorem pathL_ok : ∀ (n : Nat) (l : Ws), l.length ≤ n → WsL l → ∀ t, nameB t = true → pathB (t ++ (pathL l).1) = true ∧ ((pathL l).1 = [] ∨ ∃ r, (pathL l).1 = 58 :: r) := by
 intro n
 induction n with
 | zero =>
  intro l hl _ t ht
  have : l = [] := List.eq_nil_of_length_eq_zero (by omega)
  subst this
  rw [pathL]
  ·exact ⟨by rw [List.append_nil]; exact pathB_nm ht, .inl rfl⟩
  ·intro a b r e; cases e
 | succ n ih =>
  intro l hl hw t ht
  match l, hl, hw with
  | [], _, _ => exact ⟨by show pathB (t ++ []) = true; rw [List.append_nil]; exact pathB_nm ht, .inl rfl⟩
  | [a], _, _ => exact ⟨by show pathB (t ++ []) = true; rw [List.append_nil]; exact pathB_nm ht, .inl rfl⟩
  | a :: b :: r, hl, hw =>
   rw [pathL]
   split
   ·rename_i hc
    rw [Bool.and_eq_true, beq_iff_eq] at hc
    have hb : nameB b.1.2.1 = true := (hw b (by simp)).1 (by have := hc.2; omega)
    obtain ⟨i1, i2⟩ := ih r (by rw [List.length_cons, List.length_cons] at hl; omega) (fun w h => hw w (by simp [h])) _ hb
    refine ⟨?_, .inr ⟨_, rfl⟩⟩
    show pathB (t ++ 58 :: 58 :: (b.1.2.1 ++ (pathL r).1)) = true
    rw [path_cons ht]
    exact i1
   ·exact ⟨by rw [List.append_nil]; exact pathB_nm ht, .inl rfl⟩
theorem wsT_of {ws : Ws} (h : WsL ws) : WsT ws := fun p => by
 by_cases hp : 0 ≤ p ∧ p < ws.length
 ·obtain ⟨i, rfl⟩ : ∃ i : Nat, p = i := ⟨p.toNat, by omega⟩
  have hi : i < ws.length := by omega
  rw [wdAt_in hi, List.getD_eq_getElem?_getD, List.getElem?_eq_getElem hi]
  exact h _ (List.getElem_mem hi)
 ·rw [wdAt_out hp]
  exact ⟨fun e => absurd e (by simp), fun e => absurd e (by simp)⟩
section
variable {ws : Ws} (hT : WsL ws)
include hT
theorem path_told {s : St} (h : (pathS ws s).2.e = 0) : okPath (pathS ws s).1 = true := by
 unfold pathS pathT at h ⊢
 by_cases ho : wtx ws s ∈ ownL
 ·rw [if_pos ho] at h
  exfalso
  rw [takeS_err (failS_e (by decide)), if_neg (failS_e (by decide))] at h
  exact absurd h (failS_e (by decide))
 ·rw [if_neg ho] at h ⊢
  by_cases he : (takeS ws s 1).2.e = 0
  ·rw [if_pos he]
   have hn := take_name_ok (wsT_of hT) he
   obtain ⟨e, -⟩ := take_ok he
   obtain ⟨i1, i2⟩ := pathL_ok _ (ws.drop (takeS ws s 1).2.p.toNat) (Nat.le_refl _) (fun w h => hT w (List.mem_of_mem_drop h)) _ hn
   unfold okPath
   dsimp only
   rw [i1, fst_nm hn i2, e]
   simp [ho]
  ·rw [if_neg he] at h; exact absurd h he
theorem uid_told {s : St} (h : (uidS ws s).2.e = 0) : okPath (uidS ws s).1.1 = true := by
 unfold uidS at h ⊢
 exact path_told hT (Fwd.must (Fwd.take h).1).1
theorem name_told {s : St} (h : (nameG ws s).2.e = 0) : Tol (nameG ws s).1 := by
 unfold nameG at h ⊢
 split
 ·exact .bool _
 rename_i h1
 rw [if_neg h1] at h
 split
 ·rename_i h2
  rw [if_pos h2] at h
  exact .ref _ (uid_told hT h)
 rename_i h2
 rw [if_neg h2] at h
 split
 ·rename_i h3; exact .var h3
 ·rename_i h3
  rw [if_neg h3] at h
  exact absurd h (failS_e (by decide))
variable {g : NT → St → Option (Ex' × St)} (hg : GoesOn g) (hG : ToldG g)
include hg hG
theorem told_choice {s : St} {y : Ex' × St} (h : choiceG ws g s = some y) (he : y.2.e = 0) : Tol y.1 := by
 unfold choiceG at h
 split at h
 ·obtain ⟨a, h1, h⟩ := bind_some h
  obtain ⟨b, h2, h⟩ := bind_some h
  obtain ⟨c, h3, rfl⟩ := map_some' h
  have e3 := (Fwd.must (hg _ _ _ h3 he).1).1
  have e2 := (Fwd.must (hg _ _ _ h2 e3).1).1
  exact .ite (hG _ _ _ h1 e2 trivial) (hG _ _ _ h2 e3 trivial) (hG _ _ _ h3 he trivial)
 ·exact hG _ _ _ h he trivial
theorem told_rel {s : St} {y : Ex' × St} (h : relG ws g s = some y) (he : y.2.e = 0) : Tol y.1 := by
 unfold relG at h
 obtain ⟨a, h1, h⟩ := bind_some h
 have two : ∀ (t : Str) (f : Ex' → Ex'), isS ws a.2 t = true → (∀ b, Tol a.1 → Tol b → Tol (f b)) → ((g (.lev 2) (adv a.2)).map fun b => (f b.1, b.2)) = some y → Tol y.1 := fun t f hi hf hm => by
  obtain ⟨b, h2, rfl⟩ := map_some' hm
  exact hf _ (hG _ _ _ h1 (isS_ok hi) trivial) (hG _ _ _ h2 he trivial)
 split at h
 ·exact two _ (fun b => twoX 8 a.1 b) ‹_› (fun b ha hb => .two (by decide) ha hb) h
 split at h
 ·exact two _ (fun b => oneX' 6 [] (twoX 8 a.1 b)) ‹_› (fun b ha hb => .pre (.inl rfl) (.two (by decide) ha hb)) h
 split at h
 ·exact two _ (fun b => twoX 9 a.1 b) ‹_› (fun b ha hb => .two (by decide) ha hb) h
 split at h
 ·exact two _ (fun b => twoX 10 a.1 b) ‹_› (fun b ha hb => .two (by decide) ha hb) h
 split at h
 ·exact two _ (fun b => twoX 9 b a.1) ‹_› (fun b ha hb => .two (by decide) hb ha) h
 split at h
 ·exact two _ (fun b => twoX 10 b a.1) ‹_› (fun b ha hb => .two (by decide) hb ha) h
 split at h
 ·exact two _ (fun b => twoX 15 a.1 b) ‹_› (fun b ha hb => .two (by decide) ha hb) h
 split at h
 ·rename_i hi
  simp only [Option.some.injEq] at h; subst h
  exact .has' (take_name_ok (wsT_of hT) he) (hG _ _ _ h1 (isS_ok hi) trivial)
 split at h
 ·rename_i hi
  simp only [Option.some.injEq] at h; subst h
  exact .is' (path_told hT he) (hG _ _ _ h1 (isS_ok hi) trivial)
 ·simp only [Option.some.injEq] at h; subst h
  exact hG _ _ _ h1 he trivial
theorem told_prefix {s : St} {y : Ex' × St} (h : prefG ws g s = some y) (he : y.2.e = 0) : Tol y.1 := by
 unfold prefG at h
 split at h
 ·obtain ⟨a, h1, rfl⟩ := map_some' h
  exact .pre (.inl rfl) (hG _ _ _ h1 he trivial)
 split at h
 ·obtain ⟨a, h1, rfl⟩ := map_some' h
  exact .pre (.inr rfl) (hG _ _ _ h1 he trivial)
 ·exact hG _ _ _ h he trivial
theorem told_mems {x : Ex'} (hx : Tol x) {s : St} {y : Ex' × St} (h : memsG ws g x s = some y) (he : y.2.e = 0) : Tol y.1 := by
 unfold memsG at h
 split at h
 ·exact hG _ _ _ h he (Tol.get hx)
 split at h
 ·dsimp only at h
  split at h
  ·exact hG _ _ _ h he (Tol.get hx)
  split at h
  ·simp only [Option.some.injEq] at h; subst h; exact absurd he (failS_e (by decide))
  ·rename_i h0
   obtain ⟨b, h1, h⟩ := bind_some h
   have e1 := (Fwd.must (hg _ _ _ h he).1).1
   refine hG _ _ _ h he (Tol.meth ?_ hx (hG _ _ _ h1 e1 trivial))
   revert h0
   unfold methI
   split
   ·intro _; exact .inl rfl
   split
   ·intro _; exact .inr (.inl rfl)
   split
   ·intro _; exact .inr (.inr rfl)
   ·intro h; exact absurd rfl h
 ·simp only [Option.some.injEq] at h; subst h; exact hx
theorem told_its {op : Int} {ns : List Str} {ks : List Ex'} (hn : NTok (.its op ns ks)) {s : St} {y : Ex' × St} (h : itsG ws g op ns ks s = some y) (he : y.2.e = 0) : Tol y.1 := by
 unfold itsG at h
 obtain ⟨a, h1, h⟩ := bind_some h
 obtain ⟨ho, hk⟩ := hn
 have hd : op = 19 ∧ (headS ws op ns s).1 = [] ∨ op = 20 ∧ (headS ws op ns s).1.length = ks.length + 1 := by
  unfold headS
  rcases ho with ⟨rfl, rfl⟩ | ⟨rfl, hl⟩
  ·exact .inl ⟨rfl, by rw [if_neg (by decide)]⟩
  ·exact .inr ⟨rfl, by rw [if_pos rfl]; simp [hl]⟩
 have hks : Tol a.1 → ∀ k, k ∈ ks ++ [a.1] → Tol k := fun ha k hm => by
  rcases List.mem_append.1 hm with hm | hm
  ·exact hk k hm
  ·rw [List.mem_singleton.1 hm]; exact ha
 split at h
 ·rename_i hi
  simp only [Option.some.injEq] at h; subst h
  have ha := hG _ _ _ h1 (isS_ok hi) trivial
  rcases hd with ⟨rfl, e⟩ | ⟨rfl, e⟩
  ·dsimp only; rw [e]; exact .set (hks ha)
  ·exact .rcd (by rw [e]; simp) (hks ha)
 ·have e1 := (Fwd.must (hg _ _ _ h he).1).1
  have ha := hG _ _ _ h1 e1 trivial
  refine hG _ _ _ h he ⟨?_, hks ha⟩
  rcases hd with ⟨rfl, e⟩ | ⟨rfl, e⟩
  ·exact .inl ⟨rfl, e⟩
  ·exact .inr ⟨rfl, by rw [e]; simp⟩
theorem told_items {op : Int} (hop : op = 19 ∨ op = 20) {s : St} {y : Ex' × St} (h : itemsG ws g op s = some y) (he : y.2.e = 0) : Tol y.1 := by
 unfold itemsG at h
 split at h
 ·simp only [Option.some.injEq] at h; subst h
  rcases hop with rfl | rfl
  ·exact .set fun k hk => absurd hk (by simp)
  ·exact .rcd rfl fun k hk => absurd hk (by simp)
 ·refine hG _ _ _ h he ⟨?_, fun k hk => absurd hk (by simp)⟩
  rcases hop with rfl | rfl
  ·exact .inl ⟨rfl, rfl⟩
  ·exact .inr ⟨rfl, rfl⟩
theorem told_prim {s : St} {y : Ex' × St} (h : primG ws g s = some y) (he : y.2.e = 0) : Tol y.1 := by
 unfold primG at h
 split at h
 ·rename_i hk
  simp only [Option.some.injEq] at h; subst h
  obtain ⟨h1, h2⟩ := (wsT_of hT s.p).2 (by unfold wk at hk; omega)
  exact .num h1 h2
 split at h
 ·simp only [Option.some.injEq] at h; subst h; exact .txt _
 split at h
 ·split at h
  ·rename_i hs
   simp only [Option.some.injEq] at h; subst h; exact .slot hs
  ·simp only [Option.some.injEq] at h; subst h; exact absurd he (failS_e (by decide))
 split at h
 ·simp only [Option.some.injEq] at h; subst h; exact name_told hT he
 split at h
 ·obtain ⟨a, h1, rfl⟩ := map_some' h
  have := hG _ _ _ h1 (Fwd.must he).1 trivial
  exact this
 split at h
 ·exact told_items hT hg hG (.inl rfl) h he
 split at h
 ·exact told_items hT hg hG (.inr rfl) h he
 ·simp only [Option.some.injEq] at h; subst h; exact absurd he (failS_e (by decide))
theorem told_step {nt : NT} {s : St} {y : Ex' × St} (h : stepG ws g nt s = some y) (he : y.2.e = 0) (hn : NTok nt) : Tol y.1 := by
 cases nt with
 | expr =>
  simp only [stepG] at h
  split at h
  ·simp only [Option.some.injEq] at h; subst h; exact absurd he (failS_e (by decide))
  ·obtain ⟨b, h2, rfl⟩ := map_some' h
   have := told_choice hT hg hG h2 he
   exact this
 | lev k =>
  simp only [stepG] at h
  obtain ⟨a, h1, h⟩ := bind_some h
  have f1 := (hg _ _ _ h he).1
  have hl : NTok (lowN k) := by
   match k with
   | 0 => exact trivial
   | 1 => exact trivial
   | 2 => exact trivial
   | k + 3 => exact trivial
  exact hG _ _ _ h he (show NTok (.rows k a.1) from hG _ _ a h1 f1 hl)
 | rows k x =>
  simp only [stepG] at h
  split at h
  ·simp only [Option.some.injEq] at h; subst h; exact hn
  ·rename_i ho
   obtain ⟨a, h1, h⟩ := bind_some h
   have f1 := (hg _ _ _ h he).1
   have hl : NTok (lowN k) := by
    match k with
    | 0 => exact trivial
    | 1 => exact trivial
    | 2 => exact trivial
    | k + 3 => exact trivial
   have ha := hG _ _ a h1 f1 hl
   refine hG _ _ _ h he (show NTok (.rows k (twoX (opAt ws k s) x a.1)) from .two ?_ hn ha)
   revert ho
   match k with
   | 0 => simp only [opAt]; split <;> simp [isTwo]
   | 1 => simp only [opAt]; split <;> simp [isTwo]
   | 2 => simp only [opAt]; split <;> (try split) <;> simp [isTwo]
   | k + 3 => simp only [opAt]; split <;> simp [isTwo]
 | rel => exact told_rel hT hg hG h he
 | unary =>
  simp only [stepG] at h
  split at h
  ·simp only [Option.some.injEq] at h; subst h; exact absurd he (failS_e (by decide))
  ·obtain ⟨b, h2, rfl⟩ := map_some' h
   have := told_prefix hT hg hG h2 he
   exact this
 | member =>
  simp only [stepG] at h
  obtain ⟨a, h1, h⟩ := bind_some h
  have f1 := (hg _ _ _ h he).1
  exact hG _ _ _ h he (show NTok (.mems a.1) from hG _ _ a h1 f1 trivial)
 | mems x => exact told_mems hT hg hG hn h he
 | prim => exact told_prim hT hg hG h he
 | its op ns ks => exact told_its hT hg hG hn h he
end
theorem G_told {ws : Ws} (hT : WsL ws) : ∀ n, ToldG (G ws n)
 | 0 => fun _ _ _ h he => by obtain ⟨h1, rfl⟩ := G_zero h; exact absurd he h1
 | n + 1 => fun nt s y h he hn => by
  rw [G_succ] at h
  split at h
  ·exact told_step hT (G_goes ws n) (G_told hT n) h he hn
  ·rename_i hs
   simp only [Option.some.injEq] at h; subst h; exact absurd he hs
theorem read_told {ws : Ws} (hT : WsL ws) {i : Int} (h : (readS ws i).2.2.1 = 0) : Tol (readS ws i).1 := by
 obtain ⟨n, hn⟩ := runG_ex ws .expr (st0 i)
 unfold readS at h ⊢
 by_cases he : (runG ws .expr (st0 i)).2.e = 0
 ·rw [if_pos he]; exact G_told hT n _ _ _ hn he trivial
 ·rw [if_neg he] at h; exact absurd h he
end Go.Proofs.YtoelfmmfjebabaaGreatDoor
namespace Go.Proofs.YtoelfmmfjebabaaGreatDoor
open Go Go.Eng
set_option maxHeartbeats 1000000
set_option linter.unusedSimpArgs false
set_option linter.unusedVariables false
set_option linter.unusedSectionVars false
set_option maxRecDepth 20000
def phN (ws : Ws) : Nat → Nat
 | 0 => 0
 | n + 1 => phN ws n + (24 + (wdAt ws (n : Int)).1.2.1.length)
def ph (ws : Ws) (p : Int) : Nat := phN ws p.toNat
def inW : NT → Nat
 | .rows _ x => wt x
 | .mems x => wt x
 | .its _ ns ks => 12 + wtL ks + (ns.map fun x => x.length + 1).sum
 | _ => 0
theorem wtL_app : ∀ (l m : List Ex'), wtL (l ++ m) = wtL l + wtL m
 | [], m => by rw [wtL]; simp
 | x :: l, m => by rw [List.cons_append, wtL, wtL, wtL_app l m]; omega
theorem wt_two (op : Int) (a b : Ex') : wt (twoX op a b) = 12 + wt a + wt b := by simp [twoX, wt, wtL, lv0]; omega
theorem wt_one (op : Int) (nm : Str) (a : Ex') : wt (oneX' op nm a) = 12 + nm.length + wt a := by simp [oneX', wt, wtL, lv0]
section
variable {ws : Ws}
theorem ph_adv {s : St} (h : 0 ≤ s.p) : ph ws s.p + 24 + (wtx ws s).length = ph ws (adv s).p := by
 obtain ⟨n, hn⟩ : ∃ n : Nat, s.p = n := ⟨s.p.toNat, by omega⟩
 have e : (adv s).p.toNat = n + 1 := by show (s.p + 1).toNat = _; omega
 unfold ph wtx
 rw [e, hn, Int.toNat_natCast, phN]; omega
theorem ph_must {s : St} {t : Str} (h : 0 ≤ s.p) (he : (mustS ws s t).e = 0) : ph ws s.p + 24 ≤ ph ws (mustS ws s t).p ∧ 0 ≤ (mustS ws s t).p := by
 unfold mustS at he ⊢
 split at he
 ·rename_i hi
  rw [if_pos hi]
  have := ph_adv (ws := ws) h
  exact ⟨by omega, by show 0 ≤ s.p + 1; omega⟩
 ·exact absurd he (failS_e (by decide))
theorem ph_take {s : St} {k : Int} (h : 0 ≤ s.p) (he : (takeS ws s k).2.e = 0) : ph ws s.p + 24 + (takeS ws s k).1.length ≤ ph ws (takeS ws s k).2.p ∧ 0 ≤ (takeS ws s k).2.p := by
 unfold takeS at he ⊢
 split at he
 ·rename_i hi
  rw [if_pos hi]
  have := ph_adv (ws := ws) h
  exact ⟨by dsimp only; omega, by show 0 ≤ s.p + 1; omega⟩
 ·exact absurd he (failS_e (by decide))
theorem ph_pathL : ∀ (n : Nat) (i : Nat), ws.length ≤ i + n → (pathL (ws.drop i)).1.length + phN ws i ≤ phN ws (i + (pathL (ws.drop i)).2) := by
 intro n
 induction n with
 | zero =>
  intro i h
  rw [List.drop_eq_nil_of_le (by omega)]
  show ([] : Str).length + _ ≤ _
  simp [pathL]
 | succ n ih =>
  intro i h
  by_cases h1 : i + 1 < ws.length
  ·rw [List.drop_eq_getElem_cons (by omega), List.drop_eq_getElem_cons h1, pathL]
   split
   ·have := ih (i + 1 + 1) (by omega)
    have e1 : (wdAt ws ((i : Nat) : Int)).1.2.1 = ws[i].1.2.1 := by rw [wdAt_in (by omega), List.getD_eq_getElem?_getD, List.getElem?_eq_getElem (by omega)]; rfl
    have e2 : (wdAt ws ((i + 1 : Nat) : Int)).1.2.1 = ws[i + 1].1.2.1 := by rw [wdAt_in h1, List.getD_eq_getElem?_getD, List.getElem?_eq_getElem h1]; rfl
    have p1 : phN ws (i + 1) = phN ws i + (24 + ws[i].1.2.1.length) := by rw [phN, e1]
    have p2 : phN ws (i + 1 + 1) = phN ws (i + 1) + (24 + ws[i + 1].1.2.1.length) := by rw [phN, e2]
    dsimp only
    rw [show i + ((pathL (ws.drop (i + 1 + 1))).2 + 2) = i + 1 + 1 + (pathL (ws.drop (i + 1 + 1))).2 by omega]
    simp only [List.length_append, List.length_cons, List.length_nil]
    omega
   ·simp
  ·by_cases h0 : i < ws.length
   ·rw [List.drop_eq_getElem_cons h0, List.drop_eq_nil_of_le (by omega)]
    simp [pathL]
   ·rw [List.drop_eq_nil_of_le (by omega)]
    simp [pathL]
theorem ph_path {s : St} (h : 0 ≤ s.p) (he : (pathS ws s).2.e = 0) : ph ws s.p + 24 + (pathS ws s).1.length ≤ ph ws (pathS ws s).2.p ∧ 0 ≤ (pathS ws s).2.p := by
 unfold pathS pathT at he ⊢
 by_cases ho : wtx ws s ∈ ownL
 ·rw [if_pos ho] at he
  exfalso
  rw [takeS_err (failS_e (by decide)), if_neg (failS_e (by decide))] at he
  exact absurd he (failS_e (by decide))
 ·rw [if_neg ho] at he ⊢
  by_cases h1 : (takeS ws s 1).2.e = 0
  ·rw [if_pos h1]
   obtain ⟨a1, a2⟩ := ph_take h h1
   have := ph_pathL (ws := ws) ws.length (takeS ws s 1).2.p.toNat (by omega)
   refine ⟨?_, by dsimp only; omega⟩
   dsimp only
   unfold ph at a1 ⊢
   rw [List.length_append, show ((takeS ws s 1).2.p + ((pathL (ws.drop (takeS ws s 1).2.p.toNat)).2 : Int)).toNat = (takeS ws s 1).2.p.toNat + (pathL (ws.drop (takeS ws s 1).2.p.toNat)).2 by omega]
   omega
  ·rw [if_neg h1] at he; exact absurd he h1
theorem ph_uid {s : St} (h : 0 ≤ s.p) (he : (uidS ws s).2.e = 0) : ph ws s.p + 24 + (uidS ws s).1.1.length + (uidS ws s).1.2.length ≤ ph ws (uidS ws s).2.p ∧ 0 ≤ (uidS ws s).2.p := by
 unfold uidS at he ⊢
 have e2 := (Fwd.take he).1
 have e1 := (Fwd.must e2).1
 obtain ⟨a1, a2⟩ := ph_path h e1
 obtain ⟨b1, b2⟩ := ph_must a2 e2
 obtain ⟨c1, c2⟩ := ph_take b2 he
 dsimp only
 exact ⟨by omega, c2⟩
def WtG (ws : Ws) (g : NT → St → Option (Ex' × St)) : Prop := ∀ nt s y, g nt s = some y → y.2.e = 0 → 0 ≤ s.p → wt y.1 + ph ws s.p ≤ ph ws y.2.p + inW nt ∧ 0 ≤ y.2.p
variable {g : NT → St → Option (Ex' × St)} (hg : GoesOn g) (hG : WtG ws g)
include hg hG
theorem wt_choice {s : St} {y : Ex' × St} (h : choiceG ws g s = some y) (he : y.2.e = 0) (h0 : 0 ≤ s.p) : wt y.1 + ph ws s.p ≤ ph ws y.2.p ∧ 0 ≤ y.2.p := by
 unfold choiceG at h
 split at h
 ·obtain ⟨a, h1, h⟩ := bind_some h
  obtain ⟨b, h2, h⟩ := bind_some h
  obtain ⟨c, h3, rfl⟩ := map_some' h
  have e3 := (hg _ _ _ h3 he).1
  have e3' := (Fwd.must e3).1
  have e2 := (hg _ _ _ h2 e3').1
  have e2' := (Fwd.must e2).1
  have p0 := ph_adv (ws := ws) h0
  have q0 : 0 ≤ (adv s).p := by show 0 ≤ s.p + 1; omega
  obtain ⟨p1, q1⟩ := hG _ _ _ h1 e2' q0
  obtain ⟨p2, q2⟩ := ph_must q1 e2
  obtain ⟨p3, q3⟩ := hG _ _ _ h2 e3' q2
  obtain ⟨p4, q4⟩ := ph_must q3 e3
  obtain ⟨p5, q5⟩ := hG _ _ _ h3 he q4
  refine ⟨?_, q5⟩
  have e : wt (.mk 7 lv0 [] [a.1, b.1, c.1] []) = 12 + wt a.1 + wt b.1 + wt c.1 := by simp [wt, wtL, lv0]; omega
  dsimp only
  rw [e]
  simp only [inW] at p1 p3 p5
  omega
 ·obtain ⟨a, b⟩ := hG _ _ _ h he h0
  simp only [inW] at a
  exact ⟨by omega, b⟩
theorem wt_rel {s : St} {y : Ex' × St} (h : relG ws g s = some y) (he : y.2.e = 0) (h0 : 0 ≤ s.p) : wt y.1 + ph ws s.p ≤ ph ws y.2.p ∧ 0 ≤ y.2.p := by
 unfold relG at h
 obtain ⟨a, h1, h⟩ := bind_some h
 have two : ∀ (t : Str) (f : Ex' → Ex'), isS ws a.2 t = true → (∀ b, wt (f b) ≤ wt a.1 + wt b + 24) → ((g (.lev 2) (adv a.2)).map fun b => (f b.1, b.2)) = some y → wt y.1 + ph ws s.p ≤ ph ws y.2.p ∧ 0 ≤ y.2.p := fun t f hi hf hm => by
  obtain ⟨b, h2, rfl⟩ := map_some' hm
  obtain ⟨p1, q1⟩ := hG _ _ _ h1 (isS_ok hi) h0
  have p2 := ph_adv (ws := ws) q1
  obtain ⟨p3, q3⟩ := hG _ _ _ h2 he (by show 0 ≤ a.2.p + 1; omega)
  have := hf b.1
  simp only [inW] at p1 p3
  exact ⟨by dsimp only; omega, q3⟩
 split at h
 ·exact two _ (fun b => twoX 8 a.1 b) ‹_› (fun b => by rw [wt_two]; omega) h
 split at h
 ·exact two _ (fun b => oneX' 6 [] (twoX 8 a.1 b)) ‹_› (fun b => by rw [wt_one, wt_two, List.length_nil]; omega) h
 split at h
 ·exact two _ (fun b => twoX 9 a.1 b) ‹_› (fun b => by rw [wt_two]; omega) h
 split at h
 ·exact two _ (fun b => twoX 10 a.1 b) ‹_› (fun b => by rw [wt_two]; omega) h
 split at h
 ·exact two _ (fun b => twoX 9 b a.1) ‹_› (fun b => by rw [wt_two]; omega) h
 split at h
 ·exact two _ (fun b => twoX 10 b a.1) ‹_› (fun b => by rw [wt_two]; omega) h
 split at h
 ·exact two _ (fun b => twoX 15 a.1 b) ‹_› (fun b => by rw [wt_two]; omega) h
 split at h
 ·rename_i hi
  simp only [Option.some.injEq] at h; subst h
  obtain ⟨p1, q1⟩ := hG _ _ _ h1 (isS_ok hi) h0
  have p2 := ph_adv (ws := ws) q1
  obtain ⟨p3, q3⟩ := ph_take (ws := ws) (s := adv a.2) (by show 0 ≤ a.2.p + 1; omega) he
  simp only [inW] at p1
  dsimp only
  rw [wt_one]
  exact ⟨by omega, q3⟩
 split at h
 ·rename_i hi
  simp only [Option.some.injEq] at h; subst h
  obtain ⟨p1, q1⟩ := hG _ _ _ h1 (isS_ok hi) h0
  have p2 := ph_adv (ws := ws) q1
  obtain ⟨p3, q3⟩ := ph_path (ws := ws) (s := adv a.2) (by show 0 ≤ a.2.p + 1; omega) he
  simp only [inW] at p1
  dsimp only
  rw [wt_one]
  exact ⟨by omega, q3⟩
 ·simp only [Option.some.injEq] at h; subst h
  obtain ⟨a, b⟩ := hG _ _ _ h1 he h0
  simp only [inW] at a
  exact ⟨by omega, b⟩
end
end Go.Proofs.YtoelfmmfjebabaaGreatDoor
namespace Go.Proofs.YtoelfmmfjebabaaGreatDoor
open Go Go.Eng
set_option maxHeartbeats 1000000
set_option linter.unusedSimpArgs false
set_option linter.unusedVariables false
set_option linter.unusedSectionVars false
set_option maxRecDepth 20000
section
variable {ws : Ws}
theorem wt_name {s : St} (h0 : 0 ≤ s.p) (h : (nameG ws s).2.e = 0) : wt (nameG ws s).1 + ph ws s.p ≤ ph ws (nameG ws s).2.p ∧ 0 ≤ (nameG ws s).2.p := by
 unfold nameG at h ⊢
 have p := ph_adv (ws := ws) h0
 split
 ·refine ⟨?_, by show 0 ≤ s.p + 1; omega⟩
  have e : ∀ b : Bool, wt (litX ⟨1, b, 0, [], [], []⟩) = 12 := fun b => by simp [litX, wt, wtL]
  dsimp only
  rw [e]; omega
 rename_i h1
 rw [if_neg h1] at h
 split
 ·rename_i h2
  rw [if_pos h2] at h
  obtain ⟨q1, q2⟩ := ph_uid h0 h
  have e : ∀ a b : Str, wt (litX ⟨4, false, 0, [], a, b⟩) = 12 + a.length + b.length := fun a b => by simp [litX, wt, wtL]; omega
  dsimp only
  rw [e]
  exact ⟨by omega, q2⟩
 rename_i h2
 rw [if_neg h2] at h
 split
 ·refine ⟨?_, by show 0 ≤ s.p + 1; omega⟩
  have e : ∀ t : Str, wt (.mk 2 lv0 t [] []) = 12 + t.length := fun t => by simp [wt, wtL, lv0]
  dsimp only
  rw [e]; omega
 ·rename_i h3
  rw [if_neg h3] at h
  exact absurd h (failS_e (by decide))
theorem ph_head {op : Int} {ns : List Str} {s : St} (h0 : 0 ≤ s.p) (he : (headS ws op ns s).2.e = 0) : ph ws s.p + ((headS ws op ns s).1.map fun x => x.length + 1).sum ≤ ph ws (headS ws op ns s).2.p + (ns.map fun x => x.length + 1).sum ∧ 0 ≤ (headS ws op ns s).2.p := by
 unfold headS at he ⊢
 split
 ·rename_i ho
  rw [if_pos ho] at he
  have e1 := (Fwd.must he).1
  obtain ⟨p1, q1⟩ := ph_take h0 e1
  obtain ⟨p2, q2⟩ := ph_must q1 he
  refine ⟨?_, q2⟩
  dsimp only
  simp only [List.map_append, List.sum_append, List.map_cons, List.map_nil, List.sum_cons, List.sum_nil]
  omega
 ·exact ⟨Nat.le_refl _, h0⟩
variable {g : NT → St → Option (Ex' × St)} (hg : GoesOn g) (hG : WtG ws g)
include hg hG
theorem wt_prefix {s : St} {y : Ex' × St} (h : prefG ws g s = some y) (he : y.2.e = 0) (h0 : 0 ≤ s.p) : wt y.1 + ph ws s.p ≤ ph ws y.2.p ∧ 0 ≤ y.2.p := by
 have p := ph_adv (ws := ws) h0
 have q : 0 ≤ (adv s).p := by show 0 ≤ s.p + 1; omega
 unfold prefG at h
 split at h
 ·obtain ⟨a, h1, rfl⟩ := map_some' h
  obtain ⟨p1, q1⟩ := hG _ _ _ h1 he q
  simp only [inW] at p1
  dsimp only
  rw [wt_one, List.length_nil]
  exact ⟨by omega, q1⟩
 split at h
 ·obtain ⟨a, h1, rfl⟩ := map_some' h
  obtain ⟨p1, q1⟩ := hG _ _ _ h1 he q
  simp only [inW] at p1
  dsimp only
  rw [wt_one, List.length_nil]
  exact ⟨by omega, q1⟩
 ·obtain ⟨a, b⟩ := hG _ _ _ h he h0
  simp only [inW] at a
  exact ⟨by omega, b⟩
theorem wt_mems {x : Ex'} {s : St} {y : Ex' × St} (h : memsG ws g x s = some y) (he : y.2.e = 0) (h0 : 0 ≤ s.p) : wt y.1 + ph ws s.p ≤ ph ws y.2.p + wt x ∧ 0 ≤ y.2.p := by
 have p := ph_adv (ws := ws) h0
 have q : 0 ≤ (adv s).p := by show 0 ≤ s.p + 1; omega
 unfold memsG at h
 split at h
 ·have e1 := (hg _ _ _ h he).1
  have e2 := (Fwd.must e1).1
  obtain ⟨p1, q1⟩ := ph_take q e2
  obtain ⟨p2, q2⟩ := ph_must q1 e1
  obtain ⟨p3, q3⟩ := hG _ _ _ h he q2
  simp only [inW, wt_one] at p3
  exact ⟨by omega, q3⟩
 split at h
 ·dsimp only at h
  split at h
  ·have e1 := (hg _ _ _ h he).1
   obtain ⟨p1, q1⟩ := ph_take q e1
   obtain ⟨p3, q3⟩ := hG _ _ _ h he q1
   simp only [inW, wt_one] at p3
   exact ⟨by omega, q3⟩
  split at h
  ·simp only [Option.some.injEq] at h; subst h; exact absurd he (failS_e (by decide))
  ·obtain ⟨b, h1, h⟩ := bind_some h
   have e3 := (hg _ _ _ h he).1
   have e2 := (Fwd.must e3).1
   have e1 := (hg _ _ _ h1 e2).1
   obtain ⟨p1, q1⟩ := ph_take q (show (takeS ws (adv s) 1).2.e = 0 from e1)
   have p2 := ph_adv (ws := ws) q1
   obtain ⟨p3, q3⟩ := hG _ _ _ h1 e2 (by show 0 ≤ (takeS ws (adv s) 1).2.p + 1; omega)
   obtain ⟨p4, q4⟩ := ph_must q3 e3
   obtain ⟨p5, q5⟩ := hG _ _ _ h he q4
   simp only [inW, wt_two] at p3 p5
   exact ⟨by omega, q5⟩
 ·simp only [Option.some.injEq] at h; subst h; exact ⟨by dsimp only; omega, h0⟩
theorem wt_its {op : Int} {ns : List Str} {ks : List Ex'} {s : St} {y : Ex' × St} (h : itsG ws g op ns ks s = some y) (he : y.2.e = 0) (h0 : 0 ≤ s.p) : wt y.1 + ph ws s.p ≤ ph ws y.2.p + (12 + wtL ks + (ns.map fun x => x.length + 1).sum) ∧ 0 ≤ y.2.p := by
 unfold itsG at h
 obtain ⟨a, h1, h⟩ := bind_some h
 have ea : a.2.e = 0 := by
  split at h
  ·exact isS_ok ‹_›
  ·exact (Fwd.must (hg _ _ _ h he).1).1
 have eh := (hg _ _ _ h1 ea).1
 obtain ⟨p1, q1⟩ := ph_head (op := op) (ns := ns) h0 eh
 obtain ⟨p2, q2⟩ := hG _ _ _ h1 ea q1
 simp only [inW] at p2
 split at h
 ·simp only [Option.some.injEq] at h; subst h
  have p3 := ph_adv (ws := ws) q2
  refine ⟨?_, by show 0 ≤ a.2.p + 1; omega⟩
  have e : wt (.mk op lv0 [] (ks ++ [a.1]) (headS ws op ns s).1) = 12 + (wtL ks + wt a.1) + ((headS ws op ns s).1.map fun x => x.length + 1).sum := by
   rw [wt, wtL_app, wtL, wtL]; simp [lv0]
  dsimp only
  rw [e]; omega
 ·have e3 := (hg _ _ _ h he).1
  obtain ⟨p3, q3⟩ := ph_must q2 e3
  obtain ⟨p4, q4⟩ := hG _ _ _ h he q3
  have e : wtL (ks ++ [a.1]) = wtL ks + wt a.1 := by rw [wtL_app, wtL, wtL]; omega
  simp only [inW, e] at p4
  exact ⟨by omega, q4⟩
theorem wt_items {op : Int} {s : St} {y : Ex' × St} (h : itemsG ws g op s = some y) (he : y.2.e = 0) (h0 : 0 ≤ s.p) : wt y.1 + ph ws s.p ≤ ph ws y.2.p + 12 ∧ 0 ≤ y.2.p := by
 unfold itemsG at h
 split at h
 ·simp only [Option.some.injEq] at h; subst h
  have p := ph_adv (ws := ws) h0
  have e : wt (.mk op lv0 [] [] []) = 12 := by simp [wt, wtL, lv0]
  refine ⟨?_, by show 0 ≤ s.p + 1; omega⟩
  dsimp only
  rw [e]; omega
 ·obtain ⟨p, q⟩ := hG _ _ _ h he h0
  simp only [inW, wtL, List.map_nil, List.sum_nil] at p
  exact ⟨by omega, q⟩
theorem wt_prim {s : St} {y : Ex' × St} (h : primG ws g s = some y) (he : y.2.e = 0) (h0 : 0 ≤ s.p) : wt y.1 + ph ws s.p ≤ ph ws y.2.p ∧ 0 ≤ y.2.p := by
 have p := ph_adv (ws := ws) h0
 have q : 0 ≤ (adv s).p := by show 0 ≤ s.p + 1; omega
 unfold primG at h
 split at h
 ·simp only [Option.some.injEq] at h; subst h
  have e : ∀ n : Int, wt (litX ⟨2, false, n, [], [], []⟩) = 12 := fun n => by simp [litX, wt, wtL]
  dsimp only
  rw [e]; exact ⟨by omega, q⟩
 split at h
 ·simp only [Option.some.injEq] at h; subst h
  have e : ∀ t : Str, wt (litX ⟨3, false, 0, t, [], []⟩) = 12 + t.length := fun n => by simp [litX, wt, wtL]
  dsimp only
  rw [e]; exact ⟨by omega, q⟩
 split at h
 ·split at h
  ·simp only [Option.some.injEq] at h; subst h
   have e : ∀ t : Str, wt (.mk 3 lv0 t [] []) = 12 + t.length := fun t => by simp [wt, wtL, lv0]
   dsimp only
   rw [e]; exact ⟨by omega, q⟩
  ·simp only [Option.some.injEq] at h; subst h; exact absurd he (failS_e (by decide))
 split at h
 ·simp only [Option.some.injEq] at h; subst h; exact wt_name h0 he
 split at h
 ·obtain ⟨a, h1, rfl⟩ := map_some' h
  have ea := (Fwd.must he).1
  obtain ⟨p1, q1⟩ := hG _ _ _ h1 ea q
  obtain ⟨p2, q2⟩ := ph_must q1 he
  simp only [inW] at p1
  exact ⟨by dsimp only; omega, q2⟩
 split at h
 ·obtain ⟨p1, q1⟩ := wt_items hg hG h he q
  exact ⟨by omega, q1⟩
 split at h
 ·obtain ⟨p1, q1⟩ := wt_items hg hG h he q
  exact ⟨by omega, q1⟩
 ·simp only [Option.some.injEq] at h; subst h; exact absurd he (failS_e (by decide))
theorem inW_low (k : Nat) : inW (lowN k) = 0 := by
 match k with
 | 0 => rfl
 | 1 => rfl
 | 2 => rfl
 | k + 3 => rfl
theorem wt_step {nt : NT} {s : St} {y : Ex' × St} (h : stepG ws g nt s = some y) (he : y.2.e = 0) (h0 : 0 ≤ s.p) : wt y.1 + ph ws s.p ≤ ph ws y.2.p + inW nt ∧ 0 ≤ y.2.p := by
 cases nt with
 | expr =>
  simp only [stepG] at h
  split at h
  ·simp only [Option.some.injEq] at h; subst h; exact absurd he (failS_e (by decide))
  ·obtain ⟨b, h2, rfl⟩ := map_some' h
   have := wt_choice hg hG h2 he (show 0 ≤ (inn s).p from h0)
   exact this
 | lev k =>
  simp only [stepG] at h
  obtain ⟨a, h1, h⟩ := bind_some h
  have f1 := (hg _ _ _ h he).1
  obtain ⟨p1, q1⟩ := hG _ _ _ h1 f1 h0
  obtain ⟨p2, q2⟩ := hG _ _ _ h he q1
  rw [inW_low hg hG] at p1
  simp only [inW] at p2 ⊢
  exact ⟨by omega, q2⟩
 | rows k x =>
  simp only [stepG] at h
  split at h
  ·simp only [Option.some.injEq] at h; subst h; exact ⟨by simp only [inW]; omega, h0⟩
  ·obtain ⟨a, h1, h⟩ := bind_some h
   have f1 := (hg _ _ _ h he).1
   have p := ph_adv (ws := ws) h0
   obtain ⟨p1, q1⟩ := hG _ _ _ h1 f1 (by show 0 ≤ s.p + 1; omega)
   obtain ⟨p2, q2⟩ := hG _ _ _ h he q1
   rw [inW_low hg hG] at p1
   simp only [inW, wt_two] at p2 ⊢
   exact ⟨by omega, q2⟩
 | rel => exact wt_rel hg hG h he h0
 | unary =>
  simp only [stepG] at h
  split at h
  ·simp only [Option.some.injEq] at h; subst h; exact absurd he (failS_e (by decide))
  ·obtain ⟨b, h2, rfl⟩ := map_some' h
   have := wt_prefix hg hG h2 he (show 0 ≤ (inn s).p from h0)
   exact this
 | member =>
  simp only [stepG] at h
  obtain ⟨a, h1, h⟩ := bind_some h
  have f1 := (hg _ _ _ h he).1
  obtain ⟨p1, q1⟩ := hG _ _ _ h1 f1 h0
  obtain ⟨p2, q2⟩ := hG _ _ _ h he q1
  simp only [inW] at p1 p2 ⊢
  exact ⟨by omega, q2⟩
 | mems x => exact wt_mems hg hG h he h0
 | prim => exact wt_prim hg hG h he h0
 | its op ns ks => exact wt_its hg hG h he h0
end
theorem G_wt (ws : Ws) : ∀ n, WtG ws (G ws n)
 | 0 => fun _ _ _ h he => by obtain ⟨h1, rfl⟩ := G_zero h; exact absurd he h1
 | n + 1 => fun nt s y h he h0 => by
  rw [G_succ] at h
  split at h
  ·exact wt_step (G_goes ws n) (G_wt ws n) h he h0
  ·rename_i hs
   simp only [Option.some.injEq] at h; subst h; exact absurd he hs
end Go.Proofs.YtoelfmmfjebabaaGreatDoor
namespace Go.Proofs.YtoelfmmfjebabaaGreatDoor
open Go Go.Eng
set_option maxHeartbeats 1000000
set_option linter.unusedSimpArgs false
set_option linter.unusedVariables false
set_option maxRecDepth 20000
theorem qX_len (s : Str) : (qX s).1.length ≤ (qX s).2 := by
 unfold qX
 split
 ·simp
 ·split
  ·simp
  ·rename_i h
   have := unquote_le h
   rw [List.length_take] at this
   simp only
   omega
theorem tok_tx {s : Str} {w : Wd} {m : Nat} (h : tok s = .ok (w, m)) : w.2.1.length ≤ m := by
 unfold tok at h
 split at h
 ·cases h
 ·split at h
  ·cases h
  ·simp only [Except.ok.injEq, Prod.mk.injEq] at h
   obtain ⟨rfl, rfl⟩ := h
   unfold oneX
   split
   ·exact Nat.le_refl _
   split
   ·exact Nat.le_refl _
   split
   ·exact qX_len s
   split
   ·split
    ·simp
    ·simp
   split
   ·simp
   split
   ·simp
   ·exact Nat.le_refl _
def sumW (l : Ws) : Nat := (l.map fun w => 24 + w.1.2.1.length).sum
theorem w1_sum : ∀ (n a : Nat) (s : Str) (l : List (Wd × Nat)), w1 n a s = .ok l → sumW l ≤ 25 * s.length + 24
 | 0, _, s, l, h => by
  rw [w1] at h; injection h with h; subst h; simp [sumW]
 | n + 1, a, s, l, h => by
  rw [w1] at h
  split at h
  ·injection h with h; subst h; simp [sumW]
  ·rename_i hne
   split at h
   ·cases h
   ·rename_i w m hk
    split at h
    ·cases h
    ·rename_i l' hl
     injection h with h; subst h
     have h1 := tok_len hk
     have h2 := tok_le hne hk
     have h3 := tok_tx hk
     have ih := w1_sum n _ _ l' hl
     rw [List.length_drop] at ih
     unfold sumW at ih ⊢
     rw [List.map_cons, List.sum_cons]
     dsimp only
     omega
theorem phN_le (ws : Ws) : ∀ n, n ≤ ws.length → phN ws n ≤ sumW (ws.take n)
 | 0, _ => by simp [phN]
 | n + 1, h => by
  have ih := phN_le ws n (by omega)
  have e : ws.take (n + 1) = ws.take n ++ [ws[n]] := by rw [List.take_add_one, List.getElem?_eq_getElem (by omega)]; rfl
  rw [phN, e]
  unfold sumW at ih ⊢
  rw [List.map_append, List.sum_append, wdAt_in (by omega), List.getD_eq_getElem?_getD, List.getElem?_eq_getElem (by omega)]
  simp only [Option.getD_some, List.map_cons, List.map_nil, List.sum_cons, List.sum_nil]
  omega
theorem sumW_take (ws : Ws) (n : Nat) : sumW (ws.take n) ≤ sumW ws := by
 have : sumW ws = sumW (ws.take n) + sumW (ws.drop n) := by
  unfold sumW
  rw [← List.sum_append, ← List.map_append, List.take_append_drop]
 omega
theorem words_sum {s : Str} {l : Ws} (h : words s = .ok l) : sumW l ≤ 25 * s.length + 24 := by
 have := w1_sum _ _ _ l h
 rw [List.length_drop] at this
 omega
theorem words_wsL {s : Str} {l : Ws} (h : words s = .ok l) : WsL l := fun w hw => w1T_ok _ _ _ _ h w hw
theorem read_wt {ws : Ws} {i : Int} (hE : WsEnd ws) (hi : 0 ≤ i ∧ i < ws.length) (h : (readS ws i).2.2.1 = 0) : wt (readS ws i).1 + ph ws i ≤ ph ws (readS ws i).2.1 := by
 obtain ⟨n, hn⟩ := runG_ex ws .expr (st0 i)
 unfold readS at h ⊢
 by_cases he : (runG ws .expr (st0 i)).2.e = 0
 ·rw [if_pos he]
  have := (G_wt ws n _ _ _ hn he hi.1).1
  simp only [inW] at this
  exact this
 ·rw [if_neg he] at h; exact absurd h he
theorem parse_told {t : Str} (h : (parseS t).2.1 = 0) : Tol (parseS t).1 ∧ depX (parseS t).1 ≤ 50 ∧ wt (parseS t).1 ≤ 25 * t.length + 24 := by
 unfold parseS at h
 by_cases hl : 65536 < t.length
 ·rw [if_pos hl] at h; exact absurd h (by decide)
 rw [if_neg hl] at h
 cases hw : words t with
 | error y => rw [hw] at h; exact absurd h (w1_err _ _ _ _ hw)
 | ok l =>
  have hp : parseS t = parseL l (readS l 0) := by unfold parseS; rw [if_neg hl, hw]
  rw [hw] at h
  simp only at h
  rw [hp]
  have hne : 0 < l.length := List.length_pos_iff.2 (w1_end _ _ _ l (by rw [List.length_drop]; omega) hw).1
  have hin := @read_in l (words_end hw) 0 ⟨Int.le_refl 0, by omega⟩
  unfold parseL at h ⊢
  by_cases h1 : (readS l 0).2.2.1 = 0
  ·rw [if_neg (by simpa using h1)] at h ⊢
   by_cases h2 : ((wdAt l (readS l 0).2.1).1.1 : Int) = 0
   ·rw [if_neg (by simpa using h2)] at h ⊢
    by_cases h3 : 50 < depX (readS l 0).1
    ·rw [if_pos h3] at h; exact absurd h (show ¬ (11 : Int) = 0 by decide)
    ·rw [if_neg h3]
     obtain ⟨p0, p1, -⟩ := hin h1
     have hwt := read_wt (words_end hw) ⟨Int.le_refl 0, by omega⟩ h1
     have hs := words_sum hw
     have a1 := phN_le l (readS l 0).2.1.toNat (by omega)
     have a2 := sumW_take l (readS l 0).2.1.toNat
     refine ⟨read_told (words_wsL hw) h1, by show depX (readS l 0).1 ≤ 50; omega, ?_⟩
     unfold ph at hwt
     show wt (readS l 0).1 ≤ _
     omega
   ·rw [if_pos h2] at h; exact absurd h (show ¬ (10 : Int) = 0 by decide)
  ·rw [if_pos h1] at h; exact absurd h h1
end Go.Proofs.YtoelfmmfjebabaaGreatDoor
namespace Go.Proofs.YtoelfmmfjebabaaGreatDoor
open Go Go.Eng
set_option maxHeartbeats 1000000
set_option linter.unusedSimpArgs false
set_option linter.unusedVariables false
set_option maxRecDepth 20000
section
open Go.Eng.SO renaming mk → m
open Go.Eng.X (t c)
open Go.Eng.Kind (q e p g)
open Go.Eng.S renaming mv → v, bin → b, ld → l, store → w, call → k, add → a, ext → x, pick → h, alloc → f, build → d
open Go.Eng.SC renaming seq → Q, reg → R, ret → T, cond → D, skip → K, block → O, loop → W, tree → Y, scope → I
open Go.Eng.RT renaming op → o, alt → A, done → Z, stop → J
open Go.Value renaming int → i, string → r, slice → y, bool → B
open Go.IntKind renaming i64 → j
open Option renaming none → n, some → s
def fu9003 : Fun := Fun.mk 66 (Q (R [vc 2 (B false)]) (Q (R [c0 14 6, mv 3 14]) (Q (Q (R [mv 15 3, m (s 16) (S.un UnOp.not (t 15)) n q]) (D (t 16) (Q (R [vc 2 (B false)]) T) K)) (Q (Q (R [mv 17 0, m (s 18) (S.lenStr (t 17)) n q, bc 19 .gtr 18 (i j 1000)]) (D (t 19) (Q (R [vc 2 (B true)]) T) K)) (Q (R [mv 21 0, c1 22 7 21, mv 20 22, ex 23 20 0, ex 24 20 1, ex 25 20 2, m (s 4) (f 31 zX) n e, st 12 4 23, mv 5 24, mv 6 25]) (Q (Q (R [mv 26 5, bc 27 .neq 26 (i j 0)]) (D (t 27) (Q (R [vc 2 (B true)]) T) K)) (Q (R [ll 29 12 true 4, c1 30 8 29, mv 28 30, ex 31 28 0, ex 32 28 1, mv 7 31, mv 8 32]) (Q (Q (R [mv 33 8, bc 34 .neq 33 (i j 0)]) (D (t 34) (Q (R [vc 2 (B false)]) T) K)) (Q (R [mv 36 7, c1 37 7 36, mv 35 37, ex 38 35 0, ex 39 35 1, ex 40 35 2, m (s 9) (f 31 zX) n e, st 12 9 38, mv 10 39, mv 11 40]) (Q (Q (R [mv 41 10, bc 42 .neq 41 (i j 0)]) (D (t 42) (Q (R [mv 43 10, bc 44 .eql 43 (i j 11), mv 45 44, vg 46 10 90, m (s 47) (b BinOp.eql (t 46) (c (i j 12))) (s 90) q, ho 48 45 47, mv 2 48]) T) K)) (Q (R [ll 50 12 true 9, c1 51 8 50, mv 49 51, ex 52 49 0, ex 53 49 1, mv 12 52, mv 13 53]) (Q (R [ll 54 12 true 4, ll 55 12 true 9, c2 56 9 54 55, mv 57 56, vg 58 13 115, m (s 59) (b BinOp.eql (t 58) (c (i j 0))) (s 115) q, ha 60 57 59, mv 61 60, vg 62 12 123, vg 63 7 123, m (s 64) (b BinOp.eql (t 62) (t 63)) (s 123) q, ha 65 61 64, mv 2 65]) T)))))))))))) [RV.t 2]
theorem low9003 : lowF Tryz.prog [] Tryz.f3 = some fu9003 := by kernel_rfl
end
set_option maxHeartbeats 4000000 in
theorem back_law (F : Base) (hg : HasMarks F) (hM : HasM F) (hMx : HasMx F) (hS : HasSigns F) (t : Str) (ht : t.length ≤ 9223372036854775807) : PureV Tryz.prog F 3 #[.string (bs t)] (.bool true) := by
 refine pureV_of_svc (args := [.string (bs t)]) mixed Tryz.func3 low9003 (Nat.le_of_ble_eq_true rfl) (fun w0 => ?_)
 simp only [*, fu9003, ↓ZD, ZW, RO, simprocAttr]
 refine CallE.pure (awake_pure hM hS) ?_
 simp only [*, ↓ZD, ZW, RO, simprocAttr]
 intro hl
 have hl : t.length ≤ 1000 := by simp at hl; omega
 refine CallE.mk0 (parse_does F hg hMx t ht) ?_
 have hpt := @parse_told t
 generalize parseS t = R at *
 rintro _ H1 ⟨cs, rfl, ⟨o1, o2, o3, o4⟩, hr⟩ -
 simp only [*, ↓ZD, ZW, RO, simprocAttr]
 refine NewB.n ?_
 rintro b4 h4 hF4
 replace hr := hr.mono fun b o h => rdObj_r (G := [(b4, .cells cs.toArray 31 (0, 0))]) (fun e he e' he' => by rw [List.mem_singleton.1 he]; exact h4.all e' he') h
 simp only [*, ↓ZD, ZW, RO, simprocAttr]
 intro h
 have he : R.2.1 = 0 := by simpa using h
 obtain ⟨tol, hd, hw⟩ := hpt he
 obtain ⟨x, e, bad⟩ := R
 dsimp only at he tol hd hw hr
 clear hpt h
 subst he
 obtain ⟨ok, hp⟩ := told_parse tol hd
 have et : ptx x = (pt x, 0) := by unfold ptx; rw [if_neg (by omega), if_pos ok]
 replace hr : RepP (rdObj F ((b4, .cells cs.toArray 31 (0, 0)) :: H1)) cs x := hr
 have hpl := pt_len hr.toX
 have hx := pexpr_pure (hM.mono le_up) (hS.mono le_up) hr.toX (by omega)
 rw [et] at hx
 refine CallE.pureH hx ?_
 simp only [*, ↓ZD, ZW, RO, simprocAttr]
 refine CallE.mk0 (parse_does F hg hMx (pt x) (by omega)) ?_
 have key : parseS (pt x) = (x, 0, 0) ∨ ((parseS (pt x)).2.1 = 11 ∨ (parseS (pt x)).2.1 = 12) := by
  rcases hp with h | ⟨h, _⟩ | ⟨h, _⟩
  ·exact .inl h
  ·exact .inr (.inl h)
  ·exact .inr (.inr h)
 clear hp
 generalize parseS (pt x) = R2 at *
 rintro _ H2 ⟨cs2, rfl, ⟨r1, r2, r3, r4⟩, hr2⟩ dj
 replace hr := hr.mono fun b o h => rdObj_app1 (Hx := H2) h
 replace hr2 := hr2.mono fun b o h => rdObj_r (Dj.iff.1 dj) h
 simp only [Dj_cons] at dj
 simp only [*, ↓ZD, ZW, RO, simprocAttr]
 refine NewB.n ?_
 intro b9 h9 hF9
 replace hr := hr.mono fun b o h => rdObj_r (G := [(b9, .cells cs2.toArray 31 (0, 0))]) (fun e he e' he' => by rw [List.mem_singleton.1 he]; exact h9.all e' he') h
 replace hr2 := hr2.mono fun b o h => rdObj_r (G := [(b9, .cells cs2.toArray 31 (0, 0))]) (fun e he e' he' => by rw [List.mem_singleton.1 he]; exact h9.all e' he') h
 simp only [Nb_cons, Nb_app] at h9
 simp only [*, ↓ZD, ZW, RO, simprocAttr]
 refine ⟨fun h => ?_, fun h => ?_⟩
 ·have h : R2.2.1 ≠ 0 := by simpa using h
  rcases key with rfl | k | k
  ·exact absurd rfl h
  ·rw [k]; rfl
  ·rw [k]; rfl
 ·have h : R2.2.1 = 0 := by simpa using h
  rcases key with rfl | k | k
  ·have hx2 := pexpr_pure (hM.mono le_up) (hS.mono le_up) hr2.toX (show wt x ≤ 1048576 by omega)
   rw [show ptx ((x, (0 : Int), (0 : Int)) : Ex' × Int × Int).1 = (pt x, 0) from et] at hx2
   refine CallE.pureH hx2 ?_
   simp only [*, ↓ZD, ZW, RO, simprocAttr]
   refine CallE.pureH (same_pure _ hr hr2) ?_
   simp only [*, beq_self_eq_true, eq_self, ↓ZD, ZW, RO, simprocAttr]
  ·rw [h] at k; exact absurd k (by decide)
  ·rw [h] at k; exact absurd k (by decide)
end Go.Proofs.YtoelfmmfjebabaaGreatDoor
