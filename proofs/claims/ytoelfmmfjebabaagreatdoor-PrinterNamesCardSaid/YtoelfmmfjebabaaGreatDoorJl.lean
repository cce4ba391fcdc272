/- Joined. -/
import Derived.Test.YtoelfmmfjebabaaGreatDoorJf
import Derived.Test.YtoelfmmfjebabaaGreatDoorJg
import Derived.Test.YtoelfmmfjebabaaGreatDoorJd
import Derived.Test.YtoelfmmfjebabaaGreatDoorJk
import Derived.Test.YtoelfmmfjebabaaGreatDoorJe
import Derived.LaidSub
import Derived.LaidMore
import Derived.Lay
import Derived.Lib.LaidIn
set_option linter.unusedSectionVars false
namespace Go.Proofs.YtoelfmmfjebabaaGreatDoor
open Go Go.Eng
set_option maxHeartbeats 1000000
set_option linter.unusedSimpArgs false
set_option linter.unusedVariables false
set_option maxRecDepth 20000
inductive Tol : Ex' → Prop
 | bool (b : Bool) : Tol (litX ⟨1, b, 0, [], [], []⟩)
 | num {n : Int} : 0 ≤ n → n ≤ 9223372036854775807 → Tol (litX ⟨2, false, n, [], [], []⟩)
 | txt (t : Str) : Tol (litX ⟨3, false, 0, t, [], []⟩)
 | ref {ty : Str} (id : Str) : okPath ty = true → Tol (litX ⟨4, false, 0, [], ty, id⟩)
 | var {t : Str} : t ∈ varL → Tol (.mk 2 lv0 t [] [])
 | slot {t : Str} : t ∈ slotL → Tol (.mk 3 lv0 t [] [])
 | two {op : Int} {a b : Ex'} : isTwo op = true → Tol a → Tol b → Tol (twoX op a b)
 | pre {op : Int} {a : Ex'} : op = 6 ∨ op = 14 → Tol a → Tol (oneX' op [] a)
 | ite {a b c : Ex'} : Tol a → Tol b → Tol c → Tol (.mk 7 lv0 [] [a, b, c] [])
 | is' {t : Str} {a : Ex'} : okPath t = true → Tol a → Tol (oneX' 16 t a)
 | has' {t : Str} {a : Ex'} : nameB t = true → Tol a → Tol (oneX' 17 t a)
 | get {t : Str} {a : Ex'} : Tol a → Tol (oneX' 18 t a)
 | set {ks : List Ex'} : (∀ k, k ∈ ks → Tol k) → Tol (.mk 19 lv0 [] ks [])
 | rcd {ns : List Str} {ks : List Ex'} : ns.length = ks.length → (∀ k, k ∈ ks → Tol k) → Tol (.mk 20 lv0 [] ks ns)
 | meth {op : Int} {a b : Ex'} : op = 21 ∨ op = 22 ∨ op = 23 → Tol a → Tol b → Tol (twoX op a b)
structure TW (x : Ex') (K : List Wd) : Prop where
 rd : Rd2 x K
 lx : Lexs (pt x) K nLD
 fs : ∃ c r, pt x = c :: r ∧ c ≠ 61
def Told (x : Ex') : Prop := okX x = true ∧ ∃ K, TW x K
theorem Lexs.any {P : Str} {ks : List Wd} {ok : UInt8 → Bool} (h : Lexs P ks any8) : Lexs P ks ok := h.mono fun _ _ => rfl
theorem rd2_of {x : Ex'} {w : Wd} {K : List Wd} (h : Rd x (w :: K)) (hw : noneB [[105, 102], [93], [125], [33], [45]] w = true) : Rd2 x (w :: K) := ⟨h, fun _ _ => ⟨w, K, rfl, hw⟩⟩
theorem told_bool (b : Bool) : Told (litX ⟨1, b, 0, [], [], []⟩) := by
 refine ⟨by cases b <;> rfl, _, rd2_of (rd_bool b) (by cases b <;> decide), ?_, ?_⟩
 ·cases b with
  | true => exact Lexs.name (P := [116, 114, 117, 101]) (by decide)
  | false => exact Lexs.name (P := [102, 97, 108, 115, 101]) (by decide)
 ·cases b with
  | true => exact ⟨_, _, rfl, by decide⟩
  | false => exact ⟨_, _, rfl, by decide⟩
theorem isD_no61 {c : UInt8} (h : isD c = true) : c ≠ 61 := by
 rintro rfl; revert h; decide
theorem isL_no61 {c : UInt8} (h : isL c = true) : c ≠ 61 := by
 rintro rfl; revert h; decide
theorem told_num {n : Int} (h0 : 0 ≤ n) (h1 : n ≤ 9223372036854775807) : Told (litX ⟨2, false, n, [], [], []⟩) := by
 obtain ⟨s1, s2, s3⟩ := shows_num h0 h1
 have e : pt (litX ⟨2, false, n, [], [], []⟩) = shows n := rfl
 refine ⟨?_, _, rd2_of (rd_num (shows n) n) (by simp [noneB, wIs]), ?_, ?_⟩
 ·show (arOk 1 0 0 && (okL [] && litOk ⟨2, false, n, [], [], []⟩)) = true
  simp [arOk, kidsI, okL, litOk, h0]
 ·rw [e]
  exact (Lexs.num s1 s2 s3).mono fun c h => by
   have h : (!isLD c) = true := h
   unfold isLD at h
   cases hd : isD c with
   | false => rfl
   | true => rw [hd, Bool.or_true] at h; cases h
 ·rw [e]
  obtain ⟨c, r, e2⟩ := List.exists_cons_of_ne_nil s1
  rw [e2, List.all_cons, Bool.and_eq_true] at s2
  exact ⟨c, r, e2, isD_no61 s2.1⟩
theorem told_txt (t : Str) : Told (litX ⟨3, false, 0, t, [], []⟩) := ⟨rfl, _, rd2_of (rd_txt t) (by simp [noneB, wIs]), (Lexs.quoted t).any, ⟨34, _, rfl, by decide⟩⟩
theorem path_tyk {ty : Str} (h : okPath ty = true) : ∃ ks, TyK ty ks := by
 unfold okPath at h
 rw [Bool.and_eq_true] at h
 obtain ⟨t, K, hk, e⟩ := path_ex _ ty (Nat.le_refl _) h.1
 refine ⟨_, hk, t, K, rfl, ?_⟩
 have h2 := h.2
 unfold fst58 at h2
 rw [← e] at h2
 simpa using h2
theorem path_fs {ty : Str} {ks : List Wd} (h : PathK ty ks) (r : Str) : ∃ c r', ty ++ r = c :: r' ∧ c ≠ 61 := by
 have key : ∀ {t : Str}, nameB t = true → ∃ c r', t = c :: r' ∧ c ≠ 61 := fun {t} ht => by
  cases t with
  | nil => cases ht
  | cons c r => rw [nameB, Bool.and_eq_true] at ht; exact ⟨c, r, rfl, isL_no61 ht.1⟩
 cases h with
 | one ht => obtain ⟨c, r', rfl, hc⟩ := key ht; exact ⟨c, _, rfl, hc⟩
 | more ht _ => obtain ⟨c, r', rfl, hc⟩ := key ht; exact ⟨c, _, rfl, hc⟩
theorem told_ref {ty : Str} (id : Str) (h : okPath ty = true) : Told (litX ⟨4, false, 0, [], ty, id⟩) := by
 obtain ⟨ks, hk⟩ := path_tyk h
 have hr := rd_ref (id := id) hk
 have hk' := hk
 obtain ⟨hk1, t, K, rfl, ho⟩ := hk'
 refine ⟨?_, _, ⟨hr, fun _ _ => ⟨_, _, rfl, ?_⟩⟩, ?_, ?_⟩
 ·show (arOk 1 0 0 && (okL [] && litOk ⟨4, false, 0, [], ty, id⟩)) = true
  simp [arOk, kidsI, okL, litOk, h]
 ·have hn : nameB t = true := by cases hk1 <;> assumption
  have hif : wIs (nm t) [105, 102] = false := by
   unfold wIs
   rw [Bool.and_eq_false_iff]
   refine .inr ?_
   rw [beq_eq_false_iff_ne]
   rintro e
   exact ho (by rw [show t = [105, 102] from e]; simp [ownL])
  have := name_no hn
  simp only [noneB, List.all_cons, List.all_nil, Bool.and_true, hif, Bool.not_false, Bool.true_and] at this ⊢
  exact this
 ·show Lexs (ty ++ (cc ++ quote id)) _ nLD
  have h2 : Lexs ([58, 58] ++ quote id) [mk cK, (3, id, 0)] nLD := (Lexs.mark2 (by decide)).app' (Lexs.quoted id).any
  exact (path_lexs hk1).then h2 (by decide)
 ·exact path_fs hk1 _
theorem told_var {t : Str} (h : t ∈ varL) : Told (.mk 2 lv0 t [] []) := by
 simp [varL] at h
 rcases h with rfl | rfl | rfl | rfl <;> exact ⟨by rfl, _, rd2_of (rd_var (by simp [varL])) (by decide), Lexs.name (by decide), ⟨_, _, rfl, by decide⟩⟩
theorem told_slot {t : Str} (h : t ∈ slotL) : Told (.mk 3 lv0 t [] []) := by
 simp [slotL] at h
 rcases h with rfl | rfl <;> exact ⟨by rfl, _, rd2_of (rd_slot (by simp [slotL])) (by decide), Lexs.slot (by decide), ⟨_, _, rfl, by decide⟩⟩
end Go.Proofs.YtoelfmmfjebabaaGreatDoor
namespace Go.Proofs.YtoelfmmfjebabaaGreatDoor
open Go Go.Eng
set_option maxHeartbeats 1000000
set_option linter.unusedSimpArgs false
set_option linter.unusedVariables false
set_option maxRecDepth 20000
theorem sign_lex {op : Int} (h : isTwo op = true) : ∃ o, opW op o ∧ Lexs (signT op) [o] any8 ∧ ∃ r, signT op = 32 :: r := by
 have h : op = 4 ∨ op = 5 ∨ op = 8 ∨ op = 9 ∨ op = 10 ∨ op = 11 ∨ op = 12 ∨ op = 13 ∨ op = 15 := by
  simp [isTwo] at h; omega
 have m2 : ∀ c d : UInt8, twosL.contains [c, d] = true → Lexs ([32] ++ ([c, d] ++ [32])) [mk [c, d]] any8 := fun c d h => Lexs.sp1 (by have := (Lexs.mark2 h).app' (Lexs.sp (A := [32]) (by decide)); simpa using this)
 have m1 : ∀ c : UInt8, lone c = true → Lexs ([32] ++ ([c] ++ [32])) [mk [c]] any8 := fun c h => Lexs.sp1 (Lexs.one h (Lexs.sp (A := [32]) (by decide)))
 rcases h with rfl | rfl | rfl | rfl | rfl | rfl | rfl | rfl | rfl
 ·exact ⟨_, .inr (.inl ⟨rfl, rfl⟩), m2 38 38 (by decide), _, rfl⟩
 ·exact ⟨_, .inl ⟨rfl, rfl⟩, m2 124 124 (by decide), _, rfl⟩
 ·exact ⟨_, .inr (.inr (.inr (.inr (.inr (.inl ⟨rfl, rfl⟩))))), m2 61 61 (by decide), _, rfl⟩
 ·refine ⟨_, .inr (.inr (.inr (.inr (.inr (.inr (.inl ⟨rfl, rfl⟩)))))), ?_, _, rfl⟩
  have h1 : Lexs ([60] ++ [32]) ([mk [60]] ++ []) any8 := (Lexs.mark1 (by decide)).app (Lexs.sp (A := [32]) (by decide)) (by simp) (fun c r e => by injection e with e1 _; subst e1; decide)
  exact Lexs.sp1 h1
 ·exact ⟨_, .inr (.inr (.inr (.inr (.inr (.inr (.inr (.inl ⟨rfl, rfl⟩))))))), m2 60 61 (by decide), _, rfl⟩
 ·exact ⟨_, .inr (.inr (.inl ⟨rfl, rfl⟩)), m1 43 (by decide), _, rfl⟩
 ·exact ⟨_, .inr (.inr (.inr (.inl ⟨rfl, rfl⟩))), m1 45 (by decide), _, rfl⟩
 ·exact ⟨_, .inr (.inr (.inr (.inr (.inl ⟨rfl, rfl⟩)))), m1 42 (by decide), _, rfl⟩
 ·refine ⟨_, .inr (.inr (.inr (.inr (.inr (.inr (.inr (.inr ⟨rfl, rfl⟩))))))), ?_, _, rfl⟩
  exact Lexs.sp1 (Lexs.word (u := [105, 110]) (Q := []) (by decide) (Lexs.sp (A := [32]) (by decide)) (by decide))
theorem told_two {op : Int} {a b : Ex'} (h : isTwo op = true) (ha : Told a) (hb : Told b) : Told (twoX op a b) := by
 obtain ⟨oa, Ka, ta⟩ := ha
 obtain ⟨ob, Kb, tb⟩ := hb
 obtain ⟨o, ho, hl, r, er⟩ := sign_lex h
 have h' : op = 4 ∨ op = 5 ∨ op = 8 ∨ op = 9 ∨ op = 10 ∨ op = 11 ∨ op = 12 ∨ op = 13 ∨ op = 15 := by
  simp [isTwo] at h; omega
 have e : pt (twoX op a b) = 40 :: (pt a ++ (signT op ++ (pt b ++ [41]))) := by
  rcases h' with rfl | rfl | rfl | rfl | rfl | rfl | rfl | rfl | rfl <;> simp [twoX, pt, ptL, arOk, kidsI, nodeT, isTwo]
 refine ⟨?_, _, rd2_of (rd_two ta.rd.toRd tb.rd.toRd ho) (by decide), ?_, 40, _, e, by decide⟩
 ·rcases h' with rfl | rfl | rfl | rfl | rfl | rfl | rfl | rfl | rfl <;> simp [twoX, okX, okL, arOk, kidsI, nodeOk, oa, ob]
 ·rw [e]
  have l1 : Lexs (pt b ++ [41]) (Kb ++ [mk [41]]) any8 := tb.lx.then (Lexs.end1 (by decide)) (by decide)
  have l2 := hl.app' l1
  have l3 : Lexs (pt a ++ (signT op ++ (pt b ++ [41]))) (Ka ++ ([o] ++ (Kb ++ [mk [41]]))) any8 := by
   rw [er] at l2 ⊢
   exact ta.lx.then l2 (by decide)
  exact (Lexs.one (by decide) l3).any
theorem told_pre {op : Int} {a : Ex'} (h : op = 6 ∨ op = 14) (ha : Told a) : Told (oneX' op [] a) := by
 obtain ⟨oa, Ka, ta⟩ := ha
 have key : ∀ c : UInt8, (c = 33 ∧ op = 6) ∨ (c = 45 ∧ op = 14) → pt (oneX' op [] a) = c :: pt a → Told (oneX' op [] a) := fun c hc e => by
  refine ⟨?_, mk [c] :: Ka, ⟨rd_pre ta.rd.toRd hc, fun h6 h14 => ?_⟩, ?_, c, _, e, by rcases hc with ⟨rfl, _⟩ | ⟨rfl, _⟩ <;> decide⟩
  ·rcases h with rfl | rfl <;> simp [oneX', okX, okL, arOk, kidsI, nodeOk, oa]
  ·rcases h with rfl | rfl
   ·exact absurd rfl h6
   ·exact absurd rfl h14
  ·rw [e]
   obtain ⟨d, r, e2, hd⟩ := ta.fs
   have hne : pt a ≠ [] := by rw [e2]; simp
   have hc1 : onesR.contains c = true := by rcases hc with ⟨rfl, _⟩ | ⟨rfl, _⟩ <;> decide
   refine (Lexs.mark1 hc1).app ta.lx hne fun d' r' e3 => ?_
   rw [e2] at e3
   injection e3 with e3 _
   subst e3
   rcases hc with ⟨rfl, _⟩ | ⟨rfl, _⟩ <;> simp [twosL, hd]
 rcases h with rfl | rfl
 ·exact key 33 (.inl ⟨rfl, rfl⟩) (by simp [oneX', pt, ptL, arOk, kidsI, nodeT, isTwo])
 ·exact key 45 (.inr ⟨rfl, rfl⟩) (by simp [oneX', pt, ptL, arOk, kidsI, nodeT, isTwo])
theorem told_if {a b c : Ex'} (ha : Told a) (hb : Told b) (hc : Told c) : Told (.mk 7 lv0 [] [a, b, c] []) := by
 obtain ⟨oa, Ka, ta⟩ := ha
 obtain ⟨ob, Kb, tb⟩ := hb
 obtain ⟨oc, Kc, tc⟩ := hc
 have e : pt (.mk 7 lv0 [] [a, b, c] []) = 40 :: ([105, 102] ++ 32 :: (pt a ++ 32 :: ([116, 104, 101, 110] ++ 32 :: (pt b ++ 32 :: ([101, 108, 115, 101] ++ 32 :: (pt c ++ [41])))))) := by
  simp [pt, ptL, arOk, kidsI, nodeT, isTwo]
 refine ⟨by simp [okX, okL, arOk, kidsI, nodeOk, oa, ob, oc], _, rd2_of (rd_if ta.rd.toRd tb.rd.toRd tc.rd.toRd) (by decide), ?_, 40, _, e, by decide⟩
 rw [e]
 have l1 : Lexs (pt c ++ [41]) (Kc ++ [mk [41]]) any8 := tc.lx.then (Lexs.end1 (by decide)) (by decide)
 have l2 := Lexs.word (u := [101, 108, 115, 101]) (by decide) l1.sp1 (by decide)
 have l3 := tb.lx.then l2.sp1 (by decide)
 have l4 := Lexs.word (u := [116, 104, 101, 110]) (by decide) l3.sp1 (by decide)
 have l5 := ta.lx.then l4.sp1 (by decide)
 have l6 := Lexs.word (u := [105, 102]) (by decide) l5.sp1 (by decide)
 have l7 := Lexs.one (c := 40) (by decide) l6
 have := l7.any (ok := nLD)
 simpa using this
theorem told_is {t : Str} {a : Ex'} (h : okPath t = true) (ha : Told a) : Told (oneX' 16 t a) := by
 obtain ⟨oa, Ka, ta⟩ := ha
 obtain ⟨ks, hk⟩ := path_tyk h
 have e : pt (oneX' 16 t a) = 40 :: (pt a ++ 32 :: ([105, 115] ++ 32 :: (t ++ [41]))) := by simp [oneX', pt, ptL, arOk, kidsI, nodeT, isTwo]
 refine ⟨by simp [oneX', okX, okL, arOk, kidsI, nodeOk, oa, h], _, rd2_of (rd_is ta.rd.toRd hk) (by decide), ?_, 40, _, e, by decide⟩
 rw [e]
 have l1 : Lexs (t ++ [41]) (ks ++ [mk [41]]) any8 := (path_lexs hk.1).then (Lexs.end1 (by decide)) (by decide)
 have l2 := Lexs.word (u := [105, 115]) (by decide) l1.sp1 (by decide)
 have l3 := ta.lx.then l2.sp1 (by decide)
 have := (Lexs.one (c := 40) (by decide) l3).any (ok := nLD)
 simpa using this
theorem told_has {t : Str} {a : Ex'} (h : nameB t = true) (ha : Told a) : Told (oneX' 17 t a) := by
 obtain ⟨oa, Ka, ta⟩ := ha
 have e : pt (oneX' 17 t a) = 40 :: (pt a ++ 32 :: ([104, 97, 115] ++ 32 :: (t ++ [41]))) := by simp [oneX', pt, ptL, arOk, kidsI, nodeT, isTwo]
 refine ⟨by simp [oneX', okX, okL, arOk, kidsI, nodeOk, oa, h], _, rd2_of (rd_has (t := t) ta.rd.toRd) (by decide), ?_, 40, _, e, by decide⟩
 rw [e]
 have l1 := Lexs.word (u := t) (c := 41) h (Lexs.end1 (by decide)) (by decide)
 have l2 := Lexs.word (u := [104, 97, 115]) (by decide) l1.sp1 (by decide)
 have l3 := ta.lx.then l2.sp1 (by decide)
 have := (Lexs.one (c := 40) (by decide) l3).any (ok := nLD)
 simpa using this
theorem own_tw {a : Ex'} {K : List Wd} (t : TW a K) : Lexs (own1 a.op (pt a)) (ownK a K) nLD ∧ ∃ c r, own1 a.op (pt a) = c :: r ∧ c ≠ 61 := by
 unfold own1 ownK
 by_cases h : a.op = 6 ∨ a.op = 14
 ·rw [if_pos h, if_pos h]
  exact ⟨(Lexs.one (by decide) (t.lx.then (Lexs.end1 (by decide)) (by decide))).any, 40, _, rfl, by decide⟩
 ·rw [if_neg h, if_neg h]
  exact ⟨t.lx, t.fs⟩
theorem own_rd2 {a y : Ex'} {K K2 : List Wd} (t : TW a K) (h : Rd y (ownK a K ++ K2)) : Rd2 y (ownK a K ++ K2) := by
 obtain ⟨w, K0, e, hw⟩ := ownK_ne t.rd.toRd t.rd.ft
 exact ⟨h, fun _ _ => ⟨w, K0 ++ K2, by rw [e]; rfl, hw⟩⟩
theorem fs_app {P Q : Str} (h : ∃ c r, P = c :: r ∧ c ≠ 61) : ∃ c r, P ++ Q = c :: r ∧ c ≠ 61 := by
 obtain ⟨c, r, rfl, hc⟩ := h
 exact ⟨c, r ++ Q, rfl, hc⟩
theorem told_get {t : Str} {a : Ex'} (ha : Told a) : Told (oneX' 18 t a) := by
 obtain ⟨oa, Ka, ta⟩ := ha
 obtain ⟨hl, hf⟩ := own_tw ta
 have ok : okX (oneX' 18 t a) = true := by simp [oneX', okX, okL, arOk, kidsI, nodeOk, oa]
 refine ⟨ok, ?_⟩
 by_cases hn : nameB t = true
 ·have e : pt (oneX' 18 t a) = own1 a.op (pt a) ++ 46 :: t := by simp [oneX', pt, ptL, arOk, kidsI, nodeT, isTwo, hn]
  refine ⟨_, own_rd2 ta (rd_dot (t := t) ta.rd), ?_, by rw [e]; exact fs_app hf⟩
  rw [e]
  exact hl.then (Lexs.one (by decide) (Lexs.name hn)) (by decide)
 ·have e : pt (oneX' 18 t a) = own1 a.op (pt a) ++ 91 :: (quote t ++ [93]) := by simp [oneX', pt, ptL, arOk, kidsI, nodeT, isTwo, hn]
  refine ⟨_, own_rd2 ta (rd_get (t := t) ta.rd), ?_, by rw [e]; exact fs_app hf⟩
  rw [e]
  exact (hl.then (Lexs.one (by decide) ((Lexs.quoted t).app' (Lexs.end1 (by decide)))) (by decide)).any
theorem told_meth {op : Int} {a b : Ex'} (h : op = 21 ∨ op = 22 ∨ op = 23) (ha : Told a) (hb : Told b) : Told (twoX op a b) := by
 obtain ⟨oa, Ka, ta⟩ := ha
 obtain ⟨ob, Kb, tb⟩ := hb
 obtain ⟨hl, hf⟩ := own_tw ta
 have key : ∀ m : Str, nameB m = true → methI m = op → pt (twoX op a b) = own1 a.op (pt a) ++ 46 :: (m ++ 40 :: (pt b ++ [41])) → okX (twoX op a b) = true → op ≠ 0 → Told (twoX op a b) := fun m hm hi e ok h0 => by
  refine ⟨ok, _, own_rd2 ta (rd_meth ta.rd tb.rd.toRd hi h0), ?_, by rw [e]; exact fs_app hf⟩
  rw [e]
  have l1 : Lexs (pt b ++ [41]) (Kb ++ [mk [41]]) any8 := tb.lx.then (Lexs.end1 (by decide)) (by decide)
  exact (hl.then (Lexs.one (by decide) (Lexs.word hm (Lexs.one (by decide) l1) (by decide))) (by decide)).any
 rcases h with rfl | rfl | rfl
 ·exact key [99, 111, 110, 116, 97, 105, 110, 115] (by decide) (by decide) (by simp [twoX, pt, ptL, arOk, kidsI, nodeT, isTwo, methT]) (by simp [twoX, okX, okL, arOk, kidsI, nodeOk, oa, ob]) (by decide)
 ·exact key [99, 111, 110, 116, 97, 105, 110, 115, 65, 108, 108] (by decide) (by decide) (by simp [twoX, pt, ptL, arOk, kidsI, nodeT, isTwo, methT]) (by simp [twoX, okX, okL, arOk, kidsI, nodeOk, oa, ob]) (by decide)
 ·exact key [99, 111, 110, 116, 97, 105, 110, 115, 65, 110, 121] (by decide) (by decide) (by simp [twoX, pt, ptL, arOk, kidsI, nodeT, isTwo, methT]) (by simp [twoX, okX, okL, arOk, kidsI, nodeOk, oa, ob]) (by decide)
end Go.Proofs.YtoelfmmfjebabaaGreatDoor
namespace Go.Proofs.YtoelfmmfjebabaaGreatDoor
open Go Go.Eng
set_option maxHeartbeats 1000000
set_option linter.unusedSimpArgs false
set_option linter.unusedVariables false
set_option maxRecDepth 20000
theorem items_ex : ∀ (ks : List Ex') (ns : List Str), ns.length = ks.length → (∀ k ∈ ks, Told k) → ∃ l : List It, l.map It.x = ks ∧ l.map It.n = ns ∧ ∀ j ∈ l, TW j.x j.K
 | [], [], _, _ => ⟨[], rfl, rfl, fun j hj => by cases hj⟩
 | [], _ :: _, h, _ => by simp at h
 | _ :: _, [], h, _ => by simp at h
 | k :: ks, n :: ns, h, hk => by
  obtain ⟨l, h1, h2, h3⟩ := items_ex ks ns (by simpa using h) fun x hx => hk x (List.mem_cons_of_mem _ hx)
  obtain ⟨-, K, t⟩ := hk k List.mem_cons_self
  refine ⟨⟨n, k, K⟩ :: l, by rw [List.map_cons, h1], by rw [List.map_cons, h2], fun j hj => ?_⟩
  rcases List.mem_cons.1 hj with rfl | hj
  ·exact t
  ·exact h3 j hj
theorem ptL_map : ∀ l : List Ex', ptL l = l.map pt
 | [] => rfl
 | x :: l => by rw [ptL, ptL_map l]; rfl
theorem okL_of : ∀ {l : List Ex'}, (∀ k ∈ l, Told k) → okL l = true
 | [], _ => rfl
 | x :: l, h => by rw [okL, (h x List.mem_cons_self).1, okL_of fun k hk => h k (List.mem_cons_of_mem _ hk)]; rfl
section
variable {op : Int} {ahead : Nat → Str}
theorem more_lexs (hop : op = 19 ∨ op = 20) : ∀ (l : List It) (i : Nat), 0 < i → (∀ (k : Nat) (j : It), l[k]? = some j → TW j.x j.K ∧ ∀ (Q : Str) (kq : List Wd), Lexs Q kq any8 → Lexs (ahead (i + k) ++ Q) (hdK op j.n ++ kq) any8) →
  Lexs (rowT ahead i (l.map fun j => pt j.x) ++ endOf op) (moreK op l ++ [mk (endOf op)]) any8 ∧ ∃ c r, rowT ahead i (l.map fun j => pt j.x) ++ endOf op = c :: r ∧ isLD c = false
 | [], i, hi, _ => by
  rcases hop with rfl | rfl
  ·exact ⟨Lexs.end1 (by decide), 93, [], rfl, by decide⟩
  ·exact ⟨Lexs.end1 (by decide), 125, [], rfl, by decide⟩
 | j :: l, i, hi, h => by
  obtain ⟨t, ha⟩ := h 0 j rfl
  obtain ⟨h1, c, r, e, hc⟩ := more_lexs hop l (i + 1) (by omega) fun k j' hk => by
   have := h (k + 1) j' (by simpa using hk)
   rwa [show i + (k + 1) = i + 1 + k by omega] at this
  rw [List.map_cons, rowT, if_pos hi]
  rw [e] at h1
  have h2 := t.lx.then h1 hc
  have h3 := Lexs.one (c := 44) (by decide) (ha _ _ h2).sp1
  rw [← e] at h3
  refine ⟨?_, 44, _, rfl, by decide⟩
  have : [44, 32] ++ (ahead i ++ (pt j.x ++ rowT ahead (i + 1) (l.map fun j => pt j.x))) ++ endOf op = 44 :: 32 :: (ahead (i + 0) ++ (pt j.x ++ (rowT ahead (i + 1) (l.map fun j => pt j.x) ++ endOf op))) := by simp
  rw [this]
  have e2 : moreK op (j :: l) ++ [mk (endOf op)] = mk [44] :: (hdK op j.n ++ (j.K ++ (moreK op l ++ [mk (endOf op)]))) := by simp [moreK]
  rw [e2]
  exact h3
theorem row_lexs (hop : op = 19 ∨ op = 20) (l : List It) (h : ∀ (k : Nat) (j : It), l[k]? = some j → TW j.x j.K ∧ ∀ (Q : Str) (kq : List Wd), Lexs Q kq any8 → Lexs (ahead k ++ Q) (hdK op j.n ++ kq) any8) : Lexs (rowT ahead 0 (l.map fun j => pt j.x) ++ endOf op) (rowK op l ++ [mk (endOf op)]) any8 := by
 cases l with
 | nil =>
  rcases hop with rfl | rfl
  ·exact Lexs.end1 (by decide)
  ·exact Lexs.end1 (by decide)
 | cons j l =>
  obtain ⟨t, ha⟩ := h 0 j rfl
  obtain ⟨h1, c, r, e, hc⟩ := more_lexs (ahead := ahead) hop l 1 (by omega) fun k j' hk => by
   have := h (k + 1) j' (by simpa using hk)
   rwa [show k + 1 = 1 + k by omega] at this
  rw [e] at h1
  have h2 := ha _ _ (t.lx.then h1 hc)
  rw [← e] at h2
  rw [List.map_cons, rowT, if_neg (by omega)]
  have : [] ++ (ahead 0 ++ (pt j.x ++ rowT ahead (0 + 1) (l.map fun j => pt j.x))) ++ endOf op = ahead 0 ++ (pt j.x ++ (rowT ahead 1 (l.map fun j => pt j.x) ++ endOf op)) := by simp
  rw [this]
  have e2 : rowK op (j :: l) ++ [mk (endOf op)] = hdK op j.n ++ (j.K ++ (moreK op l ++ [mk (endOf op)])) := by simp [rowK]
  rw [e2]
  exact h2
end
theorem told_row {op : Int} (hop : op = 19 ∨ op = 20) (l : List It) (ht : ∀ j ∈ l, TW j.x j.K) (hk : ∀ k ∈ l.map It.x, Told k) : Told (.mk op lv0 [] (l.map It.x) (nsF op [] l)) := by
 have hr := rd_items hop l fun j hj => (ht j hj).rd.toRd
 have e1 : ptL (l.map It.x) = l.map fun j => pt j.x := by rw [ptL_map, List.map_map]; rfl
 have hok := okL_of hk
 have one : ∀ Q kq, Lexs Q kq any8 → ∀ n : Str, Lexs ((quote n ++ [58, 32]) ++ Q) ([(3, n, 0), mk [58]] ++ kq) any8 := fun Q kq hQ n => by
  have h1 : Lexs ([58] ++ ([32] ++ Q)) ([mk [58]] ++ kq) any8 := (Lexs.mark1 (by decide)).app hQ.sp1 (by simp) (fun c r e => by injection e with e1 _; subst e1; decide)
  have := (Lexs.quoted n).app' h1
  simpa using this
 rcases hop with rfl | rfl
 ·have e : pt (.mk 19 lv0 [] (l.map It.x) (nsF 19 [] l)) = 91 :: (rowT (fun _ => []) 0 (l.map fun j => pt j.x) ++ [93]) := by
   rw [← e1]; simp [pt, arOk, kidsI, nodeT, isTwo, nsF]
  refine ⟨by simp [okX, arOk, kidsI, nodeOk, hok, nsF], _, rd2_of hr (by decide), ?_, 91, _, e, by decide⟩
  rw [e]
  exact (Lexs.one (by decide) (row_lexs (.inl rfl) l fun k j hj => ⟨ht j (List.mem_of_getElem? hj), fun Q kq h => by simpa [hdK] using h⟩)).any
 ·have e : pt (.mk 20 lv0 [] (l.map It.x) (nsF 20 [] l)) = 123 :: (rowT (fun i => quote ((l.map It.n).getD i []) ++ [58, 32]) 0 (l.map fun j => pt j.x) ++ [125]) := by
   rw [← e1]; simp [pt, arOk, kidsI, nodeT, isTwo, nsF]
  refine ⟨by simp [okX, arOk, kidsI, nodeOk, hok, nsF], _, rd2_of hr (by decide), ?_, 123, _, e, by decide⟩
  rw [e]
  refine (Lexs.one (by decide) (row_lexs (.inr rfl) l fun k j hj => ⟨ht j (List.mem_of_getElem? hj), fun Q kq h => ?_⟩)).any
  have en : (l.map It.n).getD k [] = j.n := by rw [List.getD_eq_getElem?_getD, List.getElem?_map, hj]; rfl
  show Lexs (quote ((l.map It.n).getD k []) ++ [58, 32] ++ Q) _ _
  rw [en]
  exact one Q kq h j.n
theorem told_all {x : Ex'} (h : Tol x) : Told x := by
 induction h with
 | bool b => exact told_bool b
 | num h0 h1 => exact told_num h0 h1
 | txt t => exact told_txt t
 | ref id h => exact told_ref id h
 | var h => exact told_var h
 | slot h => exact told_slot h
 | two h _ _ ha hb => exact told_two h ha hb
 | pre h _ ha => exact told_pre h ha
 | ite _ _ _ ha hb hc => exact told_if ha hb hc
 | is' h _ ha => exact told_is h ha
 | has' h _ ha => exact told_has h ha
 | get _ ha => exact told_get ha
 | @set ks _ hk =>
  obtain ⟨l, h1, h2, h3⟩ := items_ex ks (ks.map fun _ => []) (by simp) hk
  have := told_row (.inl rfl) l h3 (by rw [h1]; exact hk)
  rw [h1] at this
  exact this
 | @rcd ns ks hl _ hk =>
  obtain ⟨l, h1, h2, h3⟩ := items_ex ks ns hl hk
  have := told_row (.inr rfl) l h3 (by rw [h1]; exact hk)
  rw [h1] at this
  have e : nsF 20 [] l = ns := by unfold nsF; rw [if_pos rfl, h2]; rfl
  rw [e] at this
  exact this
 | meth h _ _ ha hb => exact told_meth h ha hb
theorem told_read {x : Ex'} (h : Tol x) : okX x = true ∧ ∃ l, words (pt x) = .ok l ∧ ((readS l 0 = (x, (l.length : Int) - 1, 0, 0)) ∨ ((readS l 0).2.2.1 = 11 ∧ 50 < 3 * (depX x : Int) + 1)) ∧ ((wdAt l ((l.length : Int) - 1)).1.1 : Int) = 0 := by
 obtain ⟨ok, K, t⟩ := told_all h
 obtain ⟨l, hw, hk⟩ := t.lx.words
 have hl : l.length = K.length + 1 := by have := congrArg List.length hk; rwa [List.length_map, List.length_append, List.length_singleton] at this
 have hA : At l (st0 0) (K ++ (0, [], 0) :: []) := At.of hk 0
 have hE := (hA.dropN).hd
 have ep : (mvn (st0 0) K.length).p = (l.length : Int) - 1 := by show (0 : Int) + K.length = _; omega
 rw [ep] at hE
 refine ⟨ok, l, hw, ?_, by rw [hE]; rfl⟩
 have hr := t.rd.toRd.expr (s := st0 0) (Int.le_refl 0) hA (by decide)
 obtain ⟨n, hn⟩ := runG_ex l .expr (st0 0)
 unfold readS
 rcases hr n _ hn with e | ⟨e, hb⟩
 ·rw [e, if_pos (show (mvn (st0 0) K.length).e = 0 from rfl)]
  exact .inl (by rw [← ep])
 ·rw [if_neg (by rw [e]; decide)]
  exact .inr ⟨e, by have : (st0 0).deep = 0 := rfl; omega⟩
end Go.Proofs.YtoelfmmfjebabaaGreatDoor
namespace Go.Proofs.YtoelfmmfjebabaaGreatDoor
open Go Go.Eng
set_option maxHeartbeats 1000000
set_option linter.unusedSimpArgs false
set_option linter.unusedVariables false
set_option maxRecDepth 20000
theorem told_parse {x : Ex'} (h : Tol x) (hd : depX x ≤ 50) : okX x = true ∧ (parseS (pt x) = (x, 0, 0) ∨ ((parseS (pt x)).2.1 = 11 ∧ 50 < 3 * (depX x : Int) + 1) ∨ ((parseS (pt x)).2.1 = 12 ∧ 65536 < (pt x).length)) := by
 obtain ⟨ok, l, hw, hr, hk⟩ := told_read h
 refine ⟨ok, ?_⟩
 by_cases hl : 65536 < (pt x).length
 ·refine .inr (.inr ⟨?_, hl⟩)
  unfold parseS; rw [if_pos hl]
 ·have e : parseS (pt x) = parseL l (readS l 0) := by unfold parseS; rw [if_neg hl, hw]
  rw [e]
  unfold parseL
  rcases hr with hr | ⟨hr, hb⟩
  ·rw [hr]
   dsimp only
   rw [if_neg (by decide), hk, if_neg (by decide), if_neg (by omega)]
   exact .inl rfl
  ·rw [if_pos (by rw [hr]; decide), hr]
   exact .inr (.inl ⟨rfl, hb⟩)
end Go.Proofs.YtoelfmmfjebabaaGreatDoor
namespace Go.Proofs.YtoelfmmfjebabaaGreatDoor
open Go Go.Eng
set_option maxHeartbeats 1000000
set_option linter.unusedSimpArgs false
set_option linter.unusedVariables false
set_option maxRecDepth 20000
abbrev ctxN : Str := [99, 111, 110, 116, 101, 120, 116]
def cxX : Ex' := .mk 2 lv0 ctxN [] []
def txX (t : Str) : Ex' := .mk 1 ⟨3, false, 0, t, [], []⟩ [] [] []
def rcX (a b c : Str) : Ex' := .mk 20 lv0 [] [cxX, txX b] [a, c]
def nmX (a b c : Str) : Ex' := .mk 18 lv0 a [rcX a b c] []
theorem nm_tol (a b c : Str) : Tol (nmX a b c) := .get (.rcd rfl fun k hk => by
 simp only [List.mem_cons, List.not_mem_nil, or_false] at hk
 rcases hk with rfl | rfl
 ·exact .var (by simp [varL])
 ·exact .txt b)
theorem nm_dep (a b c : Str) : depX (nmX a b c) = 3 := by simp [nmX, rcX, cxX, txX, depX, depXL]
theorem nm_wt {a b c : Str} (ha : a.length ≤ 200) (hb : b.length ≤ 200) (hc : c.length ≤ 200) : wt (nmX a b c) ≤ 1000 := by
 simp [nmX, rcX, cxX, txX, wt, wtL, lv0]; omega
abbrev nV : Value := .slice none 0 0
def lf (op : Int) (v : LV) (nm : Str) : List Value := xcells op v nV nV nm nV nV
theorem lf_rep (F : Base) {op : Int} {v : LV} {nm : Str} (h1 : I64 op) (h2 : I64 v.kind) (h3 : I64 v.n) : RepP F (lf op v nm) (.mk op v nm [] []) :=
 .mk op v nm none 0 [] (fun _ => []) nV [] h1 h2 h3 (by decide) (by decide) (fun i t h => by simp at h) (fun i t h => by simp at h) slS_nil
theorem i6 : ∀ n : Int, -100 ≤ n → n ≤ 100 → I64 n := fun n h1 h2 => by unfold I64; omega
theorem nm_rep {F : Base} {b1 b2 b3 T1 T2 T3 : Nat} {a b c : Str} (ha : a.length ≤ 200) (hc : c.length ≤ 200)
  (h1 : F b1 = some (.cells #[.string (bs a), .string (bs c)] T1 (0, 0))) (h2 : F b2 = some (.cells (lf 2 lv0 ctxN ++ lf 1 ⟨3, false, 0, b, [], []⟩ []).toArray T2 (0, 0)))
  (h3 : F b3 = some (.cells (xcells 20 lv0 nV nV [] (.slice (some ⟨b2, 0, none⟩) 2 2) (.slice (some ⟨b1, 0, none⟩) 2 2)).toArray T3 (0, 0))) :
  RepP F (xcells 18 lv0 nV nV a (.slice (some ⟨b3, 0, none⟩) 1 1) nV) (nmX a b c) := by
 have k0 : I64 lv0.kind := i6 _ (by decide) (by decide)
 have k1 : I64 lv0.n := i6 _ (by decide) (by decide)
 have r1 := lf_rep F (op := 2) (v := lv0) (nm := ctxN) (i6 _ (by decide) (by decide)) k0 k1
 have r2 := lf_rep F (op := 1) (v := ⟨3, false, 0, b, [], []⟩) (nm := []) (i6 _ (by decide) (by decide)) (i6 3 (by decide) (by decide)) (i6 0 (by decide) (by decide))
 have hs : SlS F (.slice (some ⟨b1, 0, none⟩) 2 2) [a, c] := slsN (l := [a, c]) h1 (by simp) (fun x hx => by
  simp only [List.mem_cons, List.not_mem_nil, or_false] at hx
  rcases hx with rfl | rfl <;> omega)
 have rr : RepP F (xcells 20 lv0 nV nV [] (.slice (some ⟨b2, 0, none⟩) 2 2) (.slice (some ⟨b1, 0, none⟩) 2 2)) (rcX a b c) := by
  refine .mk 20 lv0 [] (some ⟨b2, 0, none⟩) 2 [cxX, txX b] (fun i => if i = 0 then lf 2 lv0 ctxN else lf 1 ⟨3, false, 0, b, [], []⟩ []) _ [a, c] (i6 _ (by decide) (by decide)) k0 k1 (by simp) (by simp) (fun i t h => ?_) (fun i t h => ?_) hs
  ·rcases i with _ | _ | i
   ·exact ⟨b2, 0, _, _, _, rfl, h2, by simp [lf, xcells], by simp [lf, xcells]⟩
   ·exact ⟨b2, 0, _, _, _, rfl, h2, by simp [lf, xcells], by simp [lf, xcells]⟩
   ·simp at h
  ·rcases i with _ | _ | i
   ·simp only [List.getElem?_cons_zero, Option.some.injEq] at h; subst h; exact r1
   ·simp only [List.getElem?_cons_succ, List.getElem?_cons_zero, Option.some.injEq] at h; subst h; exact r2
   ·simp at h
 refine .mk 18 lv0 a (some ⟨b3, 0, none⟩) 1 [rcX a b c] (fun _ => xcells 20 lv0 nV nV [] (.slice (some ⟨b2, 0, none⟩) 2 2) (.slice (some ⟨b1, 0, none⟩) 2 2)) _ [] (i6 _ (by decide) (by decide)) k0 k1 (by simp) (by simp) (fun i t h => ?_) (fun i t h => ?_) slS_nil
 ·rcases i with _ | i
  ·exact ⟨b3, 0, _, _, _, rfl, h3, by simp [xcells], by simp [xcells]⟩
  ·simp at h
 ·rcases i with _ | i
  ·simp only [List.getElem?_cons_zero, Option.some.injEq] at h; subst h; exact rr
  ·simp at h
set_option maxHeartbeats 4000000 in
theorem names_law (F : Base) (hg : HasMarks F) (hM : HasM F) (hMx : HasMx F) (hS : HasSigns F) (a b c : Str) (la : a.length ≤ 9223372036854775807) (lb : b.length ≤ 9223372036854775807) (lc : c.length ≤ 9223372036854775807) : PureV Tryz.prog F 4 #[.string (bs a), .string (bs b), .string (bs c)] (.bool true) := by
 refine pureV_of_svc (args := [.string (bs a), .string (bs b), .string (bs c)]) mixed Tryz.func4 low4 (Nat.le_of_ble_eq_true rfl) (fun w0 => ?_)
 simp only [*, fu4, ↓ZD, ZW, RO, simprocAttr]
 refine CallE.pure (awake_pure hM hS) ?_
 simp only [*, ↓ZD, ZW, RO, simprocAttr]
 intro hl
 have hl : a.length ≤ 200 ∧ b.length ≤ 200 ∧ c.length ≤ 200 := by simp at hl; omega
 obtain ⟨ha, hb, hc⟩ := hl
 refine NewB.n ?_
 rintro b8 - hF8
 simp only [*, ↓ZD, ZW, RO, simprocAttr]
 refine NewB.n ?_
 rintro b1 ⟨_, _, -⟩ hF1
 simp only [*, ↓ZD, ZW, RO, simprocAttr]
 refine NewB.n ?_
 rintro b2 ⟨_, _, _, _, -⟩ hF2
 simp only [*, ↓ZD, ZW, RO, simprocAttr]
 refine NewB.n ?_
 rintro b3 ⟨_, _, _, _, _, _, -⟩ hF3
 simp only [*, ↓ZD, ZW, RO, simprocAttr]
 refine NewB.n ?_
 rintro b9 ⟨_, _, _, _, _, _, _, _, -⟩ hF9
 simp only [*, ↓ZD, ZW, RO, simprocAttr]
 have rp := nm_rep (F := rdObj F [(b9, .cells (xcells 18 lv0 nV nV a (.slice (some ⟨b3, 0, none⟩) 1 1) nV).toArray 31 (0, 0)), (b3, .cells (xcells 20 lv0 nV nV [] (.slice (some ⟨b2, 0, none⟩) 2 2) (.slice (some ⟨b1, 0, none⟩) 2 2)).toArray 31 (0, 0)), (b2, .cells (lf 2 lv0 ctxN ++ lf 1 ⟨3, false, 0, b, [], []⟩ []).toArray 31 (0, 0)), (b1, .cells #[.string (bs a), .string (bs c)] 9 (0, 0)), (b8, .cells (lf 2 lv0 ctxN).toArray 31 (0, 0))])
  (b1 := b1) (b2 := b2) (b3 := b3) (T1 := 9) (T2 := 31) (T3 := 31) (b := b) ha hc (by simp only [*, ↓ZD, ZW, RO, simprocAttr]; try rfl) (by simp only [*, ↓ZD, ZW, RO, simprocAttr]; try rfl) (by simp only [*, ↓ZD, ZW, RO, simprocAttr]; try rfl)
 have hwt := nm_wt ha hb hc
 have hpl := pt_len rp.toX
 have hx := pexpr_pure (hM.mono le_up) (hS.mono le_up) rp.toX (by omega)
 obtain ⟨ok, hp⟩ := told_parse (nm_tol a b c) (by rw [nm_dep]; decide)
 rw [nm_dep] at hp
 have hp : parseS (pt (nmX a b c)) = (nmX a b c, 0, 0) := by
  rcases hp with h | ⟨_, h⟩ | ⟨_, h⟩
  ·exact h
  ·omega
  ·omega
 have et : ptx (nmX a b c) = (pt (nmX a b c), 0) := by unfold ptx; rw [nm_dep, if_neg (by decide), if_pos ok]
 rw [et] at hx
 refine CallE.pureH hx ?_
 simp only [*, ↓ZD, ZW, RO, simprocAttr]
 refine CallE.mk0 (parse_does F hg hMx (pt (nmX a b c)) (by omega)) ?_
 rw [hp]
 clear hx hp et ok hpl hwt
 rintro _ H1 ⟨cs, rfl, ⟨o1, o2, o3, o4⟩, hr⟩ dj
 replace rp := rp.mono fun b o h => rdObj_app1 (Hx := H1) h
 replace hr := hr.mono fun b o h => rdObj_r (Dj.iff.1 dj) h
 simp only [Dj_cons, Dj_nil] at dj
 simp only [*, ↓ZD, ZW, RO, simprocAttr]
 refine NewB.n ?_
 intro b12 h12 hF12
 replace rp := rp.mono fun b o h => rdObj_r (G := [(b12, .cells cs.toArray 31 (0, 0))]) (fun e he e' he' => by rw [List.mem_singleton.1 he]; exact h12.all e' he') h
 replace hr := hr.mono fun b o h => rdObj_r (G := [(b12, .cells cs.toArray 31 (0, 0))]) (fun e he e' he' => by rw [List.mem_singleton.1 he]; exact h12.all e' he') h
 simp only [Nb_cons, Nb_nil] at h12
 simp only [*, beq_self_eq_true, eq_self, ↓ZD, ZW, RO, simprocAttr]
 refine CallQ.of _ (same_pure _ rp hr) ?_
 simp only [*, ↓ZD, ZW, RO, simprocAttr]
end Go.Proofs.YtoelfmmfjebabaaGreatDoor
namespace Go.Proofs.YtoelfmmfjebabaaGreatDoor
open Go
set_option maxRecDepth 100000
def L4 : List (String × DataW Unit) := [("unicode/utf8.acceptRanges", Rows.laid_unicode_utf8_acceptRanges), ("chamberlain/lex.marks", Rows.laid_chamberlain_lex_marks), ("chamberlain/printer.signs", Rows.laid_chamberlain_printer_signs), ("unicode/utf8.first", Rows.laid_unicode_utf8_first)]
theorem L4m : (L4.filter fun x => x.1 == "chamberlain/lex.marks") = [("chamberlain/lex.marks", Rows.laid_chamberlain_lex_marks)] := by kernel_rfl
theorem L4s : (L4.filter fun x => x.1 != "chamberlain/lex.marks") = [("unicode/utf8.acceptRanges", Rows.laid_unicode_utf8_acceptRanges), ("chamberlain/printer.signs", Rows.laid_chamberlain_printer_signs), ("unicode/utf8.first", Rows.laid_unicode_utf8_first)] := by kernel_rfl
theorem marks4 {w : World} (h : laidMetH Tryz.prog L4 w) : HasMarks (fun b => w.heap[b]?) := by
 have := h.filter fun x => x.1 == "chamberlain/lex.marks"
 rw [L4m] at this
 exact hasMarks_of this
theorem signs4 {w : World} (h : laidMetH Tryz.prog L4 w) : HasSigns (fun b => w.heap[b]?) := by
 have := h.filter fun x => x.1 != "chamberlain/lex.marks"
 rw [L4s] at this
 exact hasSigns_of (by kernel_rfl) (by kernel_rfl) this
noncomputable def W0 (os : Os) : World := (World.doorLaid Tryz.prog 69 os).layVars Tryz.prog [("chamberlain/lex.marks", Rows.laid_chamberlain_lex_marks), ("unicode/utf8.first", Rows.laid_unicode_utf8_first)]
theorem W0_os (os : Os) : (W0 os).os = os := World.layVars_os _ _ _
theorem L4a : (L4.filter fun x => ["chamberlain/lex.marks", "unicode/utf8.first"].contains x.1) = [("chamberlain/lex.marks", Rows.laid_chamberlain_lex_marks), ("unicode/utf8.first", Rows.laid_unicode_utf8_first)] := by kernel_rfl
theorem L4b : (L4.filter fun x => !["chamberlain/lex.marks", "unicode/utf8.first"].contains x.1) = [("unicode/utf8.acceptRanges", Rows.laid_unicode_utf8_acceptRanges), ("chamberlain/printer.signs", Rows.laid_chamberlain_printer_signs)] := by kernel_rfl
theorem laid_W0 (os : Os) (args : Array Value) : laidMetH Tryz.prog L4 ((W0 os).forCall (fun _ _ => 0) ⟨#[], args, []⟩).memory := by
 rw [MakeChecks.laidMetH_plain _ _ _ (by kernel_rfl)]
 have h : laidMet Tryz.prog L4 (W0 os) := laidMet_layVars (w0 := World.doorLaid Tryz.prog 69 os) ["chamberlain/lex.marks", "unicode/utf8.first"] [4, 0, 10] (by rw [L4a]; rfl) (by rw [L4a]; kernel_rfl) (by rw [L4a]; kernel_rfl)
  (by rw [L4b]; exact LaidIn.of_run [4, 0, 10] 8 (by kernel_rfl) (by kernel_rfl) (by kernel_rfl) (by kernel_rfl))
 exact h.of_heap (by simp [World.memory, World.forCall, Input.heap])
end Go.Proofs.YtoelfmmfjebabaaGreatDoor
