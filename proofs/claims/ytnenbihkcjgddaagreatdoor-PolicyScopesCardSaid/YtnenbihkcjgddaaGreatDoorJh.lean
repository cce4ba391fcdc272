/- Joined. -/
import Derived.Test.YtnenbihkcjgddaaGreatDoorJg
import Derived.Test.YtnenbihkcjgddaaGreatDoorJb
import Derived.Test.YtnenbihkcjgddaaGreatDoorJf
set_option linter.unusedSectionVars false
namespace Go.Proofs.YtnenbihkcjgddaaGreatDoor
open Go Go.Eng
set_option maxHeartbeats 1000000
set_option linter.unusedSimpArgs false
set_option linter.unusedVariables false
set_option maxRecDepth 20000
def QP (F : Base) (l : Value) (s' : St) (Q : Base → Value → Prop) (r : Value) (H' : Hp) : Prop := ∃ v, r = .tuple #[PV l s', v] ∧ Q (rdObj F H') v ∧ Wk H'
theorem Does.qp {F : Base} {f : Nat} {args : Array Value} {H0 : Hp} {l : Value} {s' : St} {Q : Base → Value → Prop} (h : Does Tryz.prog F f args H0 (fun r H' => ∃ v Hx, r = .tuple #[PV l s', v] ∧ Q (rdObj F Hx) v ∧ Wk Hx ∧ ∀ e ∈ Hx, e ∈ H')) : Does Tryz.prog F f args H0 (QP F l s' Q) :=
 h.shr fun v H' ⟨v, Hx, h1, h2, h3, h4⟩ => ⟨Hx, h4, v, h1, h2, h3⟩
abbrev PO (l : Value) (p : St) : Obj := .cells #[l, .int .i64 p.p, .int .i64 p.deep, .int .i64 p.e, .int .i64 p.bad] 70 (0, 0)
structure AqOk (F : Base) (ws : Ws) (b1 b2 b3 b4 : Nat) (X : List (Str × Str) × St) (y : AcS) : Prop where
 X : uidsF ws y.n y.s y.us = X
 n : (ws.length : Int) - y.s.p < y.n
 p0 : 0 ≤ y.s.p
 p1 : y.s.p ≤ ws.length
 e : y.s.e = 0
 us : y.us.length ≤ y.s.p.toNat
 o : OwnS F 2 33 (y.us.map uidC).flatten y.us.length y.v y.Ho
 n1 : Nb b1 y.Ho
 n2 : Nb b2 y.Ho
 n3 : Nb b3 y.Ho
 n4 : Nb b4 y.Ho
theorem ac_step {N n : Nat} {s u : St} {us : List (Str × Str)} (x : Str × Str) (h1 : (N : Int) - s.p < (n + 1 : Nat)) (h0 : 0 ≤ s.p) (h2 : s.p ≤ u.p) (h3 : 0 ≤ u.p ∧ u.p < N) (h4 : us.length ≤ s.p.toNat) :
  (N : Int) - (u.p + 1) < n ∧ 0 ≤ u.p + 1 ∧ u.p + 1 ≤ (N : Int) ∧ (us ++ [x]).length ≤ (u.p + 1).toNat := by
 rw [List.length_append, List.length_singleton]
 omega
theorem qaction_does (F : Base) {ws : Ws} (hws : WsOk ws) {l : Value} (hW : HasW F ws l) (hE : EndW ws) {p : St} (hp : 0 ≤ p.p) : Does Tryz.prog F 39 #[PV l p] [] (QP F l (actionP ws p).2 (ActQ (actionP ws p).1)) := by
 have hol := hW.one'
 have hwl := hW.len
 refine Does.qp ?_
 refine does_of_svc (args := [PV _ p]) mixed Tryz.func39 low39 (Nat.le_of_ble_eq_true rfl) (fun w0 hw0 => ?_)
 unfold actionP actN
 simp only [*, fu39, ↓ZD, ZW, RO, simprocAttr]
 refine NewB.n ?_
 rintro b1 - hF1
 simp only [*, ↓ZD, ZW, RO, simprocAttr]
 refine NewB.n ?_
 rintro b2 ⟨_, _, -⟩ hF2
 simp only [*, ↓ZD, ZW, RO, simprocAttr]
 refine NewB.n ?_
 rintro b3 ⟨_, _, _, _, -⟩ hF3
 simp only [*, ↓ZD, ZW, RO, simprocAttr]
 refine NewB.n ?_
 rintro b4 ⟨_, _, _, _, _, _, -⟩ hF4
 simp only [*, ↓ZD, ZW, RO, simprocAttr]
 refine CallE.pure (qmust_pure F hW hE hp _) ?_
 have hs1 := mustS_p (ws := ws) (t := [97, 99, 116, 105, 111, 110]) hp
 generalize mustS ws p [97, 99, 116, 105, 111, 110] = s1 at *
 simp only [*, ↓ZD, ZW, RO, simprocAttr]
 refine CallE.pure (rIs_pure F hW s1 _) ?_
 cases i1 : isS ws s1 [61, 61] with
 | true =>
  have hr := isS_range i1
  have hq : (adv s1).p = s1.p + 1 := rfl
  simp only [if_true]
  simp (disch := first | assumption | exact Ne.symm (by assumption) | omega) only [*, ↓ZD, ZW, RO, simprocAttr]
  refine CallE.pure (quid_pure F hws hW (adv s1)) ?_
  unfold actUid
  generalize uidP ws (adv s1) = u
  simp (disch := first | assumption | exact Ne.symm (by assumption) | omega) only [*, ↓ZD, ZW, RO, simprocAttr]
  refine TreeL.open ?_
  simp only [*, ↓ZD, ZW, RO, simprocAttr]
  repeat' (first | exact ⟨_, [], rfl, ⟨v0, rfl, SlU.nil⟩, Wk.nil, by simp⟩ | apply And.intro)
 | false =>
  simp only [if_false, Bool.false_eq_true]
  simp only [*, ↓ZD, ZW, RO, simprocAttr]
  refine CallE.pure (rIs_pure F hW s1 _) ?_
  cases i2 : isS ws s1 [105, 110] with
  | false =>
   simp only [if_true, if_false, Bool.false_eq_true]
   simp only [*, ↓ZD, ZW, RO, simprocAttr]
   refine TreeL.open ?_
   simp only [*, ↓ZD, ZW, RO, simprocAttr]
   repeat' (first | exact ⟨_, [], rfl, ⟨v0, rfl, SlU.nil⟩, Wk.nil, by simp⟩ | apply And.intro)
  | true =>
   have hr := isS_range i2
   have hq : (adv s1).p = s1.p + 1 := rfl
   simp only [if_true, if_false, Bool.true_eq_false]
   simp (disch := first | assumption | exact Ne.symm (by assumption) | omega) only [*, ↓ZD, ZW, RO, simprocAttr]
   refine CallE.pure (rIs_pure F hW (adv s1) _) ?_
   cases i3 : isS ws (adv s1) [91] with
   | false =>
    simp only [if_true, if_false, Bool.false_eq_true]
    simp only [*, ↓ZD, ZW, RO, simprocAttr]
    refine CallE.pure (quid_pure F hws hW (adv s1)) ?_
    unfold actUid
    generalize uidP ws (adv s1) = u
    simp (disch := first | assumption | exact Ne.symm (by assumption) | omega) only [*, ↓ZD, ZW, RO, simprocAttr]
    refine TreeL.open ?_
    simp only [*, ↓ZD, ZW, RO, simprocAttr]
    repeat' (first | exact ⟨_, [], rfl, ⟨v0, rfl, SlU.nil⟩, Wk.nil, by simp⟩ | apply And.intro)
   | true =>
    have hr3 := isS_range i3
    have he2 : (adv (adv s1)).e = 0 := isS_ok (s := adv s1) i3
    have hr4 : 0 ≤ (adv (adv s1)).p ∧ (adv (adv s1)).p ≤ ws.length := by
     have e1 : (adv (adv s1)).p = (adv s1).p + 1 := rfl
     omega
    simp only [if_true, if_false, Bool.true_eq_false]
    simp (disch := first | assumption | exact Ne.symm (by assumption) | omega) only [*, ↓ZD, ZW, RO, simprocAttr]
    have e1 : s1.p + 1 + 1 = (adv (adv s1)).p := rfl
    have e2 : s1.deep = (adv (adv s1)).deep := rfl
    have e3 : s1.e = (adv (adv s1)).e := rfl
    have e4 : s1.bad = (adv (adv s1)).bad := rfl
    generalize adv (adv s1) = s2 at *
    replace he2 : id (s2.e = 0) := he2
    rw [e1, e2, e3, e4]
    clear e1 e2 e3 e4 hr hr3 hq i1 i2 i3 hs1
    refine CallE.pure (rIs_pure F hW s2 _) ?_
    cases i4 : isS ws s2 [93] with
    | true =>
     have hr := isS_range i4
     simp only [if_true]
     simp (disch := first | assumption | exact Ne.symm (by assumption) | omega) only [*, ↓ZD, ZW, RO, simprocAttr]
     refine TreeL.open ?_
     simp only [*, ↓ZD, ZW, RO, simprocAttr]
     repeat' (first | exact ⟨_, [], rfl, ⟨v0, rfl, SlU.nil⟩, Wk.nil, by simp⟩ | apply And.intro)
    | false =>
     simp only [if_false, Bool.false_eq_true]
     generalize hX : uidsF ws (ws.length + 1) s2 [] = X
     have g0 : AqOk F ws b1 b2 b3 b4 X ⟨ws.length + 1, s2, [], .slice none 0 0, []⟩ := ⟨hX, by simp only; omega, hr4.1, hr4.2, he2, Nat.zero_le _, .nil, trivial, trivial, trivial, trivial⟩
     clear hX hr4 he2 i4
     simp only [*, ↓ZD, ZW, RO, simprocAttr]
     refine LoopL.inv (AqOk F ws b1 b2 b3 b4 X) (fun y => [(1, some (.pointer (some ⟨b1, 0, none⟩))), (2, some (.pointer (some ⟨b2, 0, none⟩))), (3, some (.pointer (some ⟨b3, 0, none⟩))), (4, some (.pointer (some ⟨b4, 0, none⟩)))])
      (fun y => (b4, ScO ⟨5, [], [], [], false, []⟩ y.v) :: (b3, ScO sc0 v0) :: (b2, .cells #[.slice none 0 0, .int .i64 0, .int .i64 0, .int .i64 0, .int .i64 0] 70 (0, 0)) :: (b1, PO l y.s) :: y.Ho) (fun y => y.n) _ g0 (by simp only [*, ↓ZD, ZW, RO, simprocAttr]) (by simp only [*, ↓ZD, ZW, RO, simprocAttr]; try trivial) ?_
     clear g0
     rintro ⟨n, s, us, v, Ho⟩ ⟨y1, y2, y3, y4, y5, y6, y7, y8, y9, y10, y11⟩
     dsimp only at y1 y2 y3 y4 y5 y6 y7 y8 y9 y10 y11 ⊢
     obtain ⟨n, rfl⟩ : ∃ m, n = m + 1 := ⟨n - 1, by omega⟩
     have hd : (s.e == 0) = true := by simpa using y5
     replace y5 : id (s.e = 0) := y5
     have nf := y7.noF
     have wk := OwnS.sub y7
     obtain ⟨base, capo, hv, hc⟩ := y7.len_le
     subst hv
     have hbd : (2 * (us.length + 1) + 192) * 32 ≤ 281474976710656 := by have hws1 := hws.1; omega
     rw [uidsF] at y1
     simp only [*, ↓ZD, ZW, RO, simprocAttr]
     refine NewB.n ?_
     rintro b5 h5 hF5
     simp only [Nb_cons, Nb_nil] at h5
     simp only [*, ↓ZD, ZW, RO, simprocAttr]
     refine CallE.pure (quid_pure F hws hW s) ?_
     have hq0 := uidP_p (ws := ws) (s := s) y3
     have hfw : isS ws (uidP ws s).2 [44] = true → s.p ≤ (uidP ws s).2.p := fun h => Int.add_zero s.p ▸ (Fwd.uidP (ws := ws) (s := s) (isS_ok h)).2.1
     generalize uidP ws s = u at *
     simp only [*, ↓ZD, ZW, RO, simprocAttr]
     refine NewB.n ?_
     rintro bz hz hFz
     simp only [Nb_cons, Nb_nil] at hz
     simp only [*, ↓ZD, ZW, RO, simprocAttr]
     refine EfL.more (m := 1) (nw := uidC u.1) y7 (by simp only [*, ↓ZD, ZW, RO, simprocAttr]) (rows1 hFz rfl) rfl (by simp [oneCell]) (by simp) hbd ?_
     intro bn capn sp2 hs hcap hcm hFn h2
     simp only [Nb_cons, Nb_app, Nb_nil] at h2
     simp only [*, ↓ZD, ZW, RO, simprocAttr]
     refine CallE.pure (rIs_pure F hW u.2 _) ?_
     have ho2 : OwnS F 2 33 ((us ++ [u.1]).map uidC).flatten (us ++ [u.1]).length (.slice (some ⟨bn, 0, none⟩) (us.length + 1) capn) [(bn, .cells ((us.map uidC).flatten ++ uidC u.1 ++ sp2).toArray 33 (0, 0))] := OwnS.mk sp2 hFn (by simp) (by simp) (flat_len2 _) (by simpa using hs) (by simpa using hcap) hcm
     cases i5 : isS ws u.2 [44] with
     | true =>
      have hr5 := isS_range i5
      have ks := ac_step u.1 y2 y3 (hfw i5) hr5 y6
      rw [i5, if_pos rfl] at y1
      simp (disch := first | assumption | exact Ne.symm (by assumption) | omega) only [*, ↓ZD, ZW, RO, simprocAttr]
      refine invK.on ⟨n, adv u.2, us ++ [u.1], .slice (some ⟨bn, 0, none⟩) (us.length + 1) capn, [(bn, .cells ((us.map uidC).flatten ++ uidC u.1 ++ sp2).toArray 33 (0, 0))]⟩ ⟨y1, ?_, ?_, ?_, isS_ok (s := u.2) i5, ?_, ho2, by simp only [*, ↓ZD, ZW, RO, simprocAttr], by simp only [*, ↓ZD, ZW, RO, simprocAttr], by simp only [*, ↓ZD, ZW, RO, simprocAttr], by simp only [*, ↓ZD, ZW, RO, simprocAttr]⟩ (by show n < n + 1; omega) (by simp only [*, ↓ZD, ZW, RO, simprocAttr]) (by simp only [*, ↓ZD, ZW, RO, simprocAttr]; first | done | rfl | exact ⟨rfl, rfl⟩)
      ·exact ks.1
      ·exact ks.2.1
      ·exact ks.2.2.1
      ·exact ks.2.2.2
     | false =>
      rw [i5, if_neg (by simp)] at y1
      clear hfw
      subst y1
      simp only [*, ↓ZD, ZW, RO, simprocAttr]
      refine TreeL.open ?_
      simp only [*, ↓ZD, ZW, RO, simprocAttr]
      refine CallQ.of _ (qmust_pure _ (hW.mono le_up) hE hq0 _) ?_
      generalize mustS ws u.2 [93] = s9
      simp only [*, ↓ZD, ZW, RO, simprocAttr]
      have fin : ActQ ⟨5, [], [], [], false, us ++ [u.1]⟩ (rdObj F [(bn, .cells ((us.map uidC).flatten ++ uidC u.1 ++ sp2).toArray 33 (0, 0))]) (.agg #[.int .i64 5, .string (bs []), .string (bs []), .string (bs []), .bool false, .slice (some ⟨bn, 0, none⟩) (us.length + 1) capn]) := ⟨_, rfl, SlN.own (T := 33) (by simpa using ho2) (fun g hg => by obtain ⟨u, -, rfl⟩ := List.mem_map.1 hg; rfl) (fun e he => OwnS.sub ho2 e he)⟩
      exact ⟨⟨_, _, rfl, fin, OwnS.sub ho2, by simp⟩, ⟨_, _, rfl, fin, OwnS.sub ho2, by simp⟩⟩
end Go.Proofs.YtnenbihkcjgddaaGreatDoor
namespace Go.Proofs.YtnenbihkcjgddaaGreatDoor
open Go Go.Eng
set_option maxHeartbeats 1000000
set_option linter.unusedSimpArgs false
set_option linter.unusedVariables false
set_option maxRecDepth 20000
theorem flat_lenN {n : Nat} {gs : List (List Value)} (h : ∀ g ∈ gs, g.length = n) : gs.flatten.length = gs.length * n := by
 induction gs with
 | nil => simp
 | cons x r ih => rw [List.flatten_cons, List.length_append, h x List.mem_cons_self, ih fun c hc => h c (List.mem_cons_of_mem _ hc), List.length_cons, Nat.add_mul]; omega
theorem rows_flat {c : List Value} {off n : Nat} : ∀ {gs : List (List Value)} {i : Nat}, (∀ (k : Nat) (g : List Value), gs[k]? = some g → off + (i + k) * n + n ≤ c.length ∧ (c.drop (off + (i + k) * n)).take n = g) → gs ≠ [] → off + i * n + gs.length * n ≤ c.length ∧ (c.drop (off + i * n)).take (gs.length * n) = gs.flatten
 | [], _, _, h => absurd rfl h
 | [g], i, h, _ => by
  obtain ⟨h1, h2⟩ := h 0 g rfl
  rw [Nat.add_zero] at h1 h2
  simpa using ⟨h1, h2⟩
 | g :: g2 :: r, i, h, _ => by
  obtain ⟨h1, h2⟩ := h 0 g rfl
  rw [Nat.add_zero] at h1 h2
  obtain ⟨k1, k2⟩ := rows_flat (gs := g2 :: r) (i := i + 1) (fun k x hx => by
   have := h (k + 1) x (by simpa using hx)
   rwa [show i + (k + 1) = i + 1 + k by omega] at this) (by simp)
  have e : off + (i + 1) * n = off + i * n + n := by rw [Nat.add_mul]; omega
  rw [e] at k1 k2
  have e2 : (g :: g2 :: r).length * n = n + (g2 :: r).length * n := by rw [List.length_cons, Nat.add_mul]; omega
  refine ⟨by rw [e2]; omega, ?_⟩
  rw [e2, List.take_add, h2, List.drop_drop, k2]; simp
theorem SlN.rows {n : Nat} {F : Base} {H : Hp} {v : Value} {gs : List (List Value)} (h : SlN n F v gs) : ∃ l, rowsOf F H n v = some (gs.length, l) ∧ (gs ≠ [] → l = gs.flatten) := by
 obtain ⟨a, c, rfl, h1, h2, h3⟩ := h
 by_cases h0 : gs = []
 ·subst h0
  obtain ⟨l, hl⟩ := rowsOf_zero (F := F) (H := H) (n := n) (c := c) (a := a)
  exact ⟨l, hl, fun h => absurd rfl h⟩
 ·obtain ⟨g, r, rfl⟩ := List.exists_cons_of_ne_nil h0
  obtain ⟨b, off, cl, T, fz, rfl, hF, k1, k2⟩ := h3 0 g rfl
  have key := rows_flat (c := cl.toList) (off := off) (n := n) (gs := g :: r) (i := 0) (fun k x hx => by
   obtain ⟨b', off', cl', T', fz', e, hF', k1', k2'⟩ := h3 k x hx
   injection e with e
   injection e with e1 e2
   subst e1 e2
   rw [hF] at hF'
   injection hF' with hF'
   injection hF' with hF'
   subst hF'
   rw [Nat.zero_add]
   exact ⟨by simpa using k1', k2'⟩) h0
  rw [Nat.zero_mul, Nat.add_zero] at key
  refine ⟨(g :: r).flatten, ?_, fun _ => rfl⟩
  rw [rowsOf_sl, cellsAt_O, rdObj_base hF]
  unfold cellsO
  simp only
  rw [if_pos (by simpa using key.1), key.2]
  rfl
theorem EfL.copy {F : Base} {H Hl G : Hp} {n B T : Nat} {gs : List (List Value)} {y : Value} {K : Value → Hp → Prop} [tl : Tl H Hl G] (h : SlN n F y gs) (hn : ∀ g ∈ gs, g.length = n) (hn0 : 0 < n) (h1 : ∀ v ∈ gs.flatten, oneCell v = true) (hb : (2 * gs.length + 192) * B ≤ 281474976710656)
  (hk : ∀ v Ho, OwnS F n T gs.flatten gs.length v Ho → Dj Ho (Hl ++ G) → Dj (Hl ++ G) Ho → K v (Hl ++ (Ho ++ G))) : @EfL F H (.app n B T) [.slice none 0 0, y] ⟨K⟩ := by
 obtain ⟨l, hl, hl2⟩ := h.rows (H := H)
 have e := tl.eq
 by_cases h0 : gs = []
 ·subst h0
  obtain ⟨a, c, rfl, -⟩ := h
  have hz : rowsOf F H n (.slice a ([] : List (List Value)).length c) = some (0, []) := by
   rcases a with _ | ⟨b, off, _ | s⟩
   ·rfl
   ·rw [List.length_nil, rowsOf_sl, cellsAt_O, Nat.zero_mul]
    unfold cellsO
    split
    ·split <;> simp [orZ]
    ·simp [orZ]
   ·rfl
  exact EfL.zero hz (Nat.le_refl _) (by rw [e]; simpa using hk v0 [] .nil trivial (Dj_z.mpr trivial))
 ·rw [hl2 h0] at hl
  refine EfL.of ?_
  show appP F H n B T (.slice none 0 0) y (shrK K)
  unfold appP
  simp only [hl]
  have hp := List.length_pos_iff.2 h0
  refine ⟨fun h => absurd h (by omega), fun _ => ⟨by simpa using hb, ?_⟩⟩
  unfold appNew oldOf
  intro k sp hsp hkm b hb1 hb2
  simp only [Nat.zero_add] at hsp hkm ⊢
  have d : ∀ x ∈ Hl ++ G, x.1 ≠ b := fun x hx => hb1 x (by rw [e]; exact hx)
  refine ⟨Hl ++ ([(b, .cells ([] ++ gs.flatten ++ sp).toArray T (0, 0))] ++ G), fun x hx => ?_, hk _ _ (OwnS.mk (len := gs.length) (l := gs.flatten) sp hb2 (by simp) rfl (flat_lenN hn) (by rw [hsp]; congr 1; omega) (by omega) hkm) (by rw [Dj_cons]; exact ⟨Nb.of d, trivial⟩) (Dj.iff.2 fun x hx x' hx' => by rw [List.mem_singleton.1 hx']; exact (d x hx).symm)⟩
  rw [e]
  simp only [List.mem_append, List.mem_cons, List.not_mem_nil, or_false] at hx ⊢
  rcases hx with h | rfl | h <;> simp [*]
end Go.Proofs.YtnenbihkcjgddaaGreatDoor
namespace Go.Proofs.YtnenbihkcjgddaaGreatDoor
open Go Go.Eng
set_option maxHeartbeats 1000000
set_option linter.unusedSimpArgs false
set_option linter.unusedVariables false
set_option maxRecDepth 20000
def CdQ (x : Pol) (va : Value) (F : Base) (r : Value) : Prop := ∃ vc, r = .agg (polC x v0 va v0 vc).toArray ∧ SlC F vc x.conds
theorem repP_one {F : Base} {cs : List Value} {t : Ex'} (h : RepP F cs t) : ∀ v ∈ cs, oneCell v = true := by
 cases h with
 | mk op v nm a1 c1 kids g1 vn names hop hk hn hl1 hc1 h1 r1 hN =>
  obtain ⟨a, c, rfl, -⟩ := hN
  intro v hv
  simp only [xcells, List.mem_cons, List.not_mem_nil, or_false] at hv
  rcases hv with rfl | rfl | rfl | rfl | rfl | rfl | rfl | rfl | rfl | rfl | rfl | rfl <;> rfl
theorem condR_one {F : Base} {g : List Value} {c : Bool × Ex'} (h : CondR F g c) : ∀ v ∈ g, oneCell v = true := by
 obtain ⟨cs, rfl, h⟩ := h
 intro v hv
 rcases List.mem_cons.1 hv with rfl | hv
 ·rfl
 ·exact repP_one h v hv
theorem slc_fin {F : Base} {vc : Value} {l : List (Bool × Ex')} {gs : List (List Value)} {Hk G : Hp} (ho : OwnS F 13 51 gs.flatten gs.length vc Hk) (hr : All2 (CondR (rdObj F G)) gs l) (hd : Dj Hk G) (hw : Wk G) :
  SlC (rdObj F (Hk ++ G)) vc l ∧ Wk (Hk ++ G) := by
 have up : ∀ b o, rdObj F G b = some o → rdObj F (Hk ++ G) b = some o := fun _ _ h => rdObj_r (Dj.iff.1 hd) h
 have w := (OwnS.sub ho).app hw (Dj.iff.1 hd)
 exact ⟨⟨gs, SlN.own ho (All2.all (fun _ _ h => CondR.len h) hr) (fun e he => w e (List.mem_append_left _ he)), hr.mono fun _ _ => CondR.mono up⟩, w⟩
set_option maxHeartbeats 4000000 in
theorem qcond_does (F : Base) {ws : Ws} (hws : WsOk ws) {l : Value} (hW : HasW F ws l) (hE : EndW ws) (hWE : WsEnd ws) {s : St} (hs : 0 ≤ s.p ∧ s.p < ws.length) (hI : s.e = 0 → InS ws (adv s)) (x : Pol) (va : Value) (wh : Bool) {vc : Value} (hva : oneCell va = true) (hcs : SlC F vc x.conds) (hcl : x.conds.length ≤ 70000) :
  Does Tryz.prog F 40 #[PV l s, .agg (polC x v0 va v0 vc).toArray, .bool wh] [] (QP F l (condP ws x wh (adv s)).2 (CdQ (condP ws x wh (adv s)).1 va)) := by
 have hol := hW.one'
 have hwl := hW.len
 have hvc : oneCell vc = true := by obtain ⟨_, ⟨_, _, rfl, _⟩, _⟩ := hcs; rfl
 have hs1 := mustS_p (ws := ws) (p := adv s) (t := [123]) (by show 0 ≤ s.p + 1; omega)
 have hI1 : (mustS ws (adv s) [123]).e = 0 → InS ws (mustS ws (adv s) [123]) := fun he => ((Inn.must hWE) he).2 (hI (must_e (s := adv s) he))
 have hq : (adv s).p = s.p + 1 := rfl
 have hgo : 0 ≤ (adv s).p := by omega
 generalize hY : condP ws x wh (adv s) = Y
 unfold condP at hY
 dsimp only at hY
 refine Does.qp ?_
 refine does_of_svc (args := [PV _ s, .agg (polC x v0 va v0 vc).toArray, .bool wh]) mixed Tryz.func40 low40 (Nat.le_of_ble_eq_true rfl) (fun w0 hw0 => ?_)
 simp only [*, fu40, ↓ZD, ZW, RO, simprocAttr]
 refine NewB.n ?_
 rintro b3 h hFb3
 simp only [Nb_cons, Nb_app, Nb_nil, and_true] at h
 simp only [*, ↓ZD, ZW, RO, simprocAttr]
 refine NewB.n ?_
 rintro b4 h hFb4
 simp only [Nb_cons, Nb_app, Nb_nil, and_true] at h
 simp only [*, ↓ZD, ZW, RO, simprocAttr]
 refine NewB.n ?_
 rintro b6 h hFb6
 simp only [Nb_cons, Nb_app, Nb_nil, and_true] at h
 simp only [*, ↓ZD, ZW, RO, simprocAttr]
 refine NewB.n ?_
 rintro b7 h hFb7
 simp only [Nb_cons, Nb_app, Nb_nil, and_true] at h
 simp (disch := first | assumption | exact Ne.symm (by assumption) | omega) only [*, ↓ZD, ZW, RO, simprocAttr]
 refine CallE.pure (qmust_pure F hW hE hgo _) ?_
 generalize mustS ws (adv s) [123] = s1 at *
 clear hq hgo hI
 simp only [*, ↓ZD, ZW, RO, simprocAttr]
 by_cases he : s1.e = 0
 ·have hI1 := hI1 he
  have hd : (s1.e != 0) = false := by simpa using he
  rw [if_neg (by simpa using he)] at hY
  replace he : id (s1.e = 0) := he
  simp only [*, ↓ZD, ZW, RO, simprocAttr]
  refine CallE.pure (qhere_pure F hW hE hs1) ?_
  simp only [*, wf3, wsz, ↓ZD, ZW, RO, simprocAttr]
  have hin := read_in hWE (i := s1.p) hI1
  refine CallE.mk0 (rread_does F hws hW s1.p) ?_
  generalize readS ws s1.p = R at *
  obtain ⟨t, k, e, bad⟩ := R
  dsimp only at hin hY
  rintro v Hx ⟨cs, rfl, hc, hr2, hw2⟩ hd2
  simp only [Dj_cons, Dj_nil, and_true] at hd2
  have cok := hc.2.1
  have hal : ∀ v ∈ Value.bool wh :: cs, oneCell v = true := condR_one (c := (wh, t)) ⟨cs, rfl, hr2⟩
  simp only [*, ↓ZD, ZW, RO, simprocAttr]
  refine NewB.n ?_
  rintro b9 h hF9
  simp only [Nb_cons, Nb_app, Nb_nil] at h
  simp only [*, ↓ZD, ZW, RO, simprocAttr]
  refine ⟨fun h => ?_, fun h => ?_⟩
  ·have he2 : e ≠ 0 := by simpa using h
   rw [if_pos he2] at hY
   subst hY
   refine TreeL.open ?_
   simp only [*, ↓ZD, ZW, RO, simprocAttr]
   refine CallQ.of _ (qfail_pure _ hol s1 e bad) ?_
   rw [show failA s1 e bad = ⟨s1.p, s1.deep, e, bad⟩ from if_pos he]
   simp only [*, ↓ZD, ZW, RO, simprocAttr]
   repeat' (first | exact ⟨_, [], rfl, ⟨vc, rfl, hcs.mono le_up⟩, Wk.nil, by simp⟩ | apply And.intro)
  ·have he2 : e = 0 := by simpa using h
   rw [if_neg (by simpa using he2)] at hY
   obtain ⟨i1, i2, i3⟩ := hin he2
   clear hin
   have h2 := mustS_p (ws := ws) (p := ⟨k, s1.deep, s1.e, s1.bad⟩) (t := [125]) i1
   refine CallE.pure (qmust_pure F hW hE (p := ⟨k, s1.deep, s1.e, s1.bad⟩) i1 _) ?_
   generalize mustS ws ⟨k, s1.deep, s1.e, s1.bad⟩ [125] = s2 at *
   have hdb : depX t ≤ 1000000000 := by have hlen := hws.1; omega
   simp only [*, ↓ZD, ZW, RO, simprocAttr]
   refine CallE.pureH (rdep_pure _ (hr2.mono fun _ _ h => hle_rd (by simp only [*, ↓ZD, ZW, RO, simprocAttr]) h).toX hdb) ?_
   have hbc : (!x.p.slot && hasSl t prN || !x.r.slot && hasSl t reN) = (hasSl t prN && !x.p.slot || hasSl t reN && !x.r.slot) := by rw [Bool.and_comm, Bool.and_comm (!x.r.slot)]
   obtain ⟨gs, hsl, hall⟩ := hcs
   have hg13 : ∀ g ∈ gs, g.length = 13 := All2.all (fun _ _ h => CondR.len h) hall
   have hg1 : ∀ v ∈ gs.flatten, oneCell v = true := fun v hv => by
    obtain ⟨g, h1, h2⟩ := List.mem_flatten.1 hv
    exact All2.all (P := fun g => ∀ v ∈ g, oneCell v = true) (fun _ _ h => condR_one h) hall g h1 v h2
   have hgl : gs.length ≤ 70000 := by have := hall.len; omega
   have hbd : (2 * (gs.length + 1) + 192) * 200 ≤ 281474976710656 := by omega
   by_cases hdp : 50 < depX t
   ·have hdd : decide ((50 : Int) < (depX t : Int)) = true := by simp; omega
    rw [if_pos hdp] at hY
    simp only [*, ↓ZD, ZW, RO, simprocAttr]
    refine CallE.pure (qfail_pure _ hol s2 11 _) ?_
    generalize failA s2 11 (wdAt ws s1.p).2 = s3 at *
    simp only [*, ↓ZD, ZW, RO, simprocAttr]
    refine CallE.pureH (slotted_pure _ prN (hr2.mono fun _ _ h => hle_rd (by simp only [*, ↓ZD, ZW, RO, simprocAttr]) h).toX) ?_
    simp only [*, ↓ZD, ZW, RO, simprocAttr]
    refine CallE.pureH (slotted_pure _ reN (hr2.mono fun _ _ h => hle_rd (by simp only [*, ↓ZD, ZW, RO, simprocAttr]) h).toX) ?_
    simp only [*, ↓ZD, ZW, RO, simprocAttr]
    refine ⟨fun h => ?_, fun h => ?_⟩
    ·rw [if_pos (hbc.trans h)] at hY
     refine CallE.pure (qfail_pure _ hol s3 32 _) ?_
     generalize failA s3 32 (wdAt ws s1.p).2 = s4 at *
     simp only [*, ↓ZD, ZW, RO, simprocAttr]
     refine EfL.copy (T := 51) hsl hg13 (by decide) hg1 (by omega) ?_
     intro vk Hk hok dj1 dj2
     simp only [Dj_cons, Dj_nil, Dj_app, Dj_apr, Nb_app, List.cons_append, List.nil_append] at dj1 dj2
     have nf := hok.noF
     have wk := OwnS.sub hok
     obtain ⟨base, capk, hvk, hck⟩ := hok.len_le
     subst hvk
     simp only [*, ↓ZD, ZW, RO, simprocAttr]
     refine NewB.n ?_
     rintro bz hz hFz
     simp only [Nb_cons, Nb_app, Nb_nil] at hz
     simp only [*, ↓ZD, ZW, RO, simprocAttr]
     have dh : Dj Hx Hk := by simp only [dj2]
     refine EfL.more (m := 1) (nw := .bool wh :: cs) hok (by simp only [*, ↓ZD, ZW, RO, simprocAttr]) (rows1 hFz (by simp [hc.1])) (by simp [hc.1]) hal (by simp) hbd ?_
     intro bk capn sp2 hs hcap hcm hFn h2
     simp only [Nb_cons, Nb_app, Nb_nil] at h2
     simp only [*, ↓ZD, ZW, RO, simprocAttr]
     refine TreeL.open ?_
     simp only [*, ↓ZD, ZW, RO, simprocAttr]
     subst hY
     have hcs2 : OwnS F 13 51 (gs ++ [.bool wh :: cs]).flatten (gs ++ [.bool wh :: cs]).length (.slice (some ⟨bk, 0, none⟩) (gs.length + 1) capn) [(bk, .cells (gs.flatten ++ .bool wh :: cs ++ sp2).toArray 51 (0, 0))] :=
      OwnS.mk sp2 hFn (by simp) (by simp) (by simp only [List.flatten_append, List.length_append, flat_lenN hg13, List.flatten_cons, List.flatten_nil, List.append_nil, List.length_cons, List.length_nil, hc.1, Nat.add_mul]) (by simpa using hs) (by simpa using hcap) hcm
     obtain ⟨f1, f2⟩ := slc_fin (l := x.conds ++ [(wh, t)]) hcs2 ((hall.mono fun _ _ => CondR.mono le_up).snoc ⟨cs, rfl, hr2⟩) (by simp only [*, ↓ZD, ZW, RO, simprocAttr]) hw2
     repeat' (first | exact ⟨_, _, rfl, ⟨_, rfl, f1⟩, f2, by simp +contextual⟩ | apply And.intro)
    ·rw [if_neg (by rw [hbc, h]; simp)] at hY
     refine EfL.copy (T := 51) hsl hg13 (by decide) hg1 (by omega) ?_
     intro vk Hk hok dj1 dj2
     simp only [Dj_cons, Dj_nil, Dj_app, Dj_apr, Nb_app, List.cons_append, List.nil_append] at dj1 dj2
     have nf := hok.noF
     have wk := OwnS.sub hok
     obtain ⟨base, capk, hvk, hck⟩ := hok.len_le
     subst hvk
     simp only [*, ↓ZD, ZW, RO, simprocAttr]
     refine NewB.n ?_
     rintro bz hz hFz
     simp only [Nb_cons, Nb_app, Nb_nil] at hz
     simp only [*, ↓ZD, ZW, RO, simprocAttr]
     have dh : Dj Hx Hk := by simp only [dj2]
     refine EfL.more (m := 1) (nw := .bool wh :: cs) hok (by simp only [*, ↓ZD, ZW, RO, simprocAttr]) (rows1 hFz (by simp [hc.1])) (by simp [hc.1]) hal (by simp) hbd ?_
     intro bk capn sp2 hs hcap hcm hFn h2
     simp only [Nb_cons, Nb_app, Nb_nil] at h2
     simp only [*, ↓ZD, ZW, RO, simprocAttr]
     refine TreeL.open ?_
     simp only [*, ↓ZD, ZW, RO, simprocAttr]
     subst hY
     have hcs2 : OwnS F 13 51 (gs ++ [.bool wh :: cs]).flatten (gs ++ [.bool wh :: cs]).length (.slice (some ⟨bk, 0, none⟩) (gs.length + 1) capn) [(bk, .cells (gs.flatten ++ .bool wh :: cs ++ sp2).toArray 51 (0, 0))] :=
      OwnS.mk sp2 hFn (by simp) (by simp) (by simp only [List.flatten_append, List.length_append, flat_lenN hg13, List.flatten_cons, List.flatten_nil, List.append_nil, List.length_cons, List.length_nil, hc.1, Nat.add_mul]) (by simpa using hs) (by simpa using hcap) hcm
     obtain ⟨f1, f2⟩ := slc_fin (l := x.conds ++ [(wh, t)]) hcs2 ((hall.mono fun _ _ => CondR.mono le_up).snoc ⟨cs, rfl, hr2⟩) (by simp only [*, ↓ZD, ZW, RO, simprocAttr]) hw2
     repeat' (first | exact ⟨_, _, rfl, ⟨_, rfl, f1⟩, f2, by simp +contextual⟩ | apply And.intro)
   ·have hdd : decide ((50 : Int) < (depX t : Int)) = false := by simp; omega
    rw [if_neg hdp] at hY
    simp only [*, ↓ZD, ZW, RO, simprocAttr]
    refine CallE.pureH (slotted_pure _ prN (hr2.mono fun _ _ h => hle_rd (by simp only [*, ↓ZD, ZW, RO, simprocAttr]) h).toX) ?_
    simp only [*, ↓ZD, ZW, RO, simprocAttr]
    refine CallE.pureH (slotted_pure _ reN (hr2.mono fun _ _ h => hle_rd (by simp only [*, ↓ZD, ZW, RO, simprocAttr]) h).toX) ?_
    simp only [*, ↓ZD, ZW, RO, simprocAttr]
    refine ⟨fun h => ?_, fun h => ?_⟩
    ·rw [if_pos (hbc.trans h)] at hY
     refine CallE.pure (qfail_pure _ hol s2 32 _) ?_
     generalize failA s2 32 (wdAt ws s1.p).2 = s4 at *
     simp only [*, ↓ZD, ZW, RO, simprocAttr]
     refine EfL.copy (T := 51) hsl hg13 (by decide) hg1 (by omega) ?_
     intro vk Hk hok dj1 dj2
     simp only [Dj_cons, Dj_nil, Dj_app, Dj_apr, Nb_app, List.cons_append, List.nil_append] at dj1 dj2
     have nf := hok.noF
     have wk := OwnS.sub hok
     obtain ⟨base, capk, hvk, hck⟩ := hok.len_le
     subst hvk
     simp only [*, ↓ZD, ZW, RO, simprocAttr]
     refine NewB.n ?_
     rintro bz hz hFz
     simp only [Nb_cons, Nb_app, Nb_nil] at hz
     simp only [*, ↓ZD, ZW, RO, simprocAttr]
     have dh : Dj Hx Hk := by simp only [dj2]
     refine EfL.more (m := 1) (nw := .bool wh :: cs) hok (by simp only [*, ↓ZD, ZW, RO, simprocAttr]) (rows1 hFz (by simp [hc.1])) (by simp [hc.1]) hal (by simp) hbd ?_
     intro bk capn sp2 hs hcap hcm hFn h2
     simp only [Nb_cons, Nb_app, Nb_nil] at h2
     simp only [*, ↓ZD, ZW, RO, simprocAttr]
     refine TreeL.open ?_
     simp only [*, ↓ZD, ZW, RO, simprocAttr]
     subst hY
     have hcs2 : OwnS F 13 51 (gs ++ [.bool wh :: cs]).flatten (gs ++ [.bool wh :: cs]).length (.slice (some ⟨bk, 0, none⟩) (gs.length + 1) capn) [(bk, .cells (gs.flatten ++ .bool wh :: cs ++ sp2).toArray 51 (0, 0))] :=
      OwnS.mk sp2 hFn (by simp) (by simp) (by simp only [List.flatten_append, List.length_append, flat_lenN hg13, List.flatten_cons, List.flatten_nil, List.append_nil, List.length_cons, List.length_nil, hc.1, Nat.add_mul]) (by simpa using hs) (by simpa using hcap) hcm
     obtain ⟨f1, f2⟩ := slc_fin (l := x.conds ++ [(wh, t)]) hcs2 ((hall.mono fun _ _ => CondR.mono le_up).snoc ⟨cs, rfl, hr2⟩) (by simp only [*, ↓ZD, ZW, RO, simprocAttr]) hw2
     repeat' (first | exact ⟨_, _, rfl, ⟨_, rfl, f1⟩, f2, by simp +contextual⟩ | apply And.intro)
    ·rw [if_neg (by rw [hbc, h]; simp)] at hY
     refine EfL.copy (T := 51) hsl hg13 (by decide) hg1 (by omega) ?_
     intro vk Hk hok dj1 dj2
     simp only [Dj_cons, Dj_nil, Dj_app, Dj_apr, Nb_app, List.cons_append, List.nil_append] at dj1 dj2
     have nf := hok.noF
     have wk := OwnS.sub hok
     obtain ⟨base, capk, hvk, hck⟩ := hok.len_le
     subst hvk
     simp only [*, ↓ZD, ZW, RO, simprocAttr]
     refine NewB.n ?_
     rintro bz hz hFz
     simp only [Nb_cons, Nb_app, Nb_nil] at hz
     simp only [*, ↓ZD, ZW, RO, simprocAttr]
     have dh : Dj Hx Hk := by simp only [dj2]
     refine EfL.more (m := 1) (nw := .bool wh :: cs) hok (by simp only [*, ↓ZD, ZW, RO, simprocAttr]) (rows1 hFz (by simp [hc.1])) (by simp [hc.1]) hal (by simp) hbd ?_
     intro bk capn sp2 hs hcap hcm hFn h2
     simp only [Nb_cons, Nb_app, Nb_nil] at h2
     simp only [*, ↓ZD, ZW, RO, simprocAttr]
     refine TreeL.open ?_
     simp only [*, ↓ZD, ZW, RO, simprocAttr]
     subst hY
     have hcs2 : OwnS F 13 51 (gs ++ [.bool wh :: cs]).flatten (gs ++ [.bool wh :: cs]).length (.slice (some ⟨bk, 0, none⟩) (gs.length + 1) capn) [(bk, .cells (gs.flatten ++ .bool wh :: cs ++ sp2).toArray 51 (0, 0))] :=
      OwnS.mk sp2 hFn (by simp) (by simp) (by simp only [List.flatten_append, List.length_append, flat_lenN hg13, List.flatten_cons, List.flatten_nil, List.append_nil, List.length_cons, List.length_nil, hc.1, Nat.add_mul]) (by simpa using hs) (by simpa using hcap) hcm
     obtain ⟨f1, f2⟩ := slc_fin (l := x.conds ++ [(wh, t)]) hcs2 ((hall.mono fun _ _ => CondR.mono le_up).snoc ⟨cs, rfl, hr2⟩) (by simp only [*, ↓ZD, ZW, RO, simprocAttr]) hw2
     repeat' (first | exact ⟨_, _, rfl, ⟨_, rfl, f1⟩, f2, by simp +contextual⟩ | apply And.intro)
 ·have hd : (s1.e != 0) = true := by simpa using he
  rw [if_pos (by simpa using he)] at hY
  subst hY
  simp only [*, ↓ZD, ZW, RO, simprocAttr]
  refine TreeL.open ?_
  simp only [*, ↓ZD, ZW, RO, simprocAttr]
  repeat' (first | exact ⟨_, [], rfl, ⟨vc, rfl, hcs.mono le_up⟩, Wk.nil, by simp⟩ | apply And.intro)
end Go.Proofs.YtnenbihkcjgddaaGreatDoor
namespace Go.Proofs.YtnenbihkcjgddaaGreatDoor
open Go Go.Eng
set_option maxHeartbeats 1000000
set_option linter.unusedSimpArgs false
set_option linter.unusedVariables false
set_option maxRecDepth 20000
def idQ (ws : Ws) (s : St) : St := mustS ws (mustS ws (adv s) [105, 100]) [40]
def endQ (ws : Ws) (m : St) : St := adv (if wk ws m = 3 then m else failS ws m 10)
def policyR (ws : Ws) (n : Int) (s : St) : Pol × St := if isS ws s [64] then permB ws (wtx ws (idQ ws s)) (mustS ws (endQ ws (idQ ws s)) [41]) else permB ws ([112, 111, 108, 105, 99, 121] ++ shows n) s
theorem scopeP_err {ws : Ws} {s : St} {nm : Str} (h : s.e ≠ 0) : scopeP ws s nm = (sc0, s) := by
 unfold scopeP
 dsimp only
 rw [mustS_err h, isS_err h, isS_err h, isS_err h]
 rfl
theorem actionP_err {ws : Ws} {s : St} (h : s.e ≠ 0) : actionP ws s = (sc0, s) := by
 unfold actionP
 dsimp only
 rw [mustS_err h, isS_err h, isS_err h]
 rfl
theorem permB_err {ws : Ws} {id : Str} {s : St} (h : s.e ≠ 0) : (permB ws id s).2 = s := by
 unfold permB bodyP
 rw [isS_err h, if_neg (by simp), mustS_err h]
 simp only [mustS_err h, scopeP_err h, actionP_err h, condsF_err h]
theorem policyR_agr (ws : Ws) (n : Int) (s : St) : Agr (policyR ws n s).2 (policyP ws n s).2 ∧ ((policyP ws n s).2.e = 0 → policyR ws n s = policyP ws n s) := by
 rw [policyP_eq]
 unfold policyR
 by_cases hi : isS ws s [64] = true
 ·rw [if_pos hi, if_pos hi]
  unfold quotP idQ
  generalize mustS ws (mustS ws (adv s) [105, 100]) [40] = m
  by_cases hm : m.e = 0 ∧ wk ws m = 3
  ·have e1 : takeS ws m 3 = (wtx ws m, adv m) := if_pos hm
   unfold endQ
   rw [e1, if_pos hm.2]
   exact ⟨.inl rfl, fun _ => rfl⟩
  ·have e1 : takeS ws m 3 = ([], failS ws m 10) := if_neg hm
   have hf : (failS ws m 10).e ≠ 0 := failS_e (by decide)
   have h2 : (endQ ws m).e = (failS ws m 10).e ∧ (endQ ws m).bad = (failS ws m 10).bad := by
    unfold endQ
    by_cases hk : wk ws m = 3
    ·have he : m.e ≠ 0 := fun h => hm ⟨h, hk⟩
     rw [if_pos hk, failS_err he]; exact ⟨rfl, rfl⟩
    ·rw [if_neg hk]; exact ⟨rfl, rfl⟩
   have he : (endQ ws m).e ≠ 0 := by rw [h2.1]; exact hf
   rw [e1]
   dsimp only
   rw [mustS_err he, mustS_err hf, permB_err he, permB_err hf]
   exact ⟨.inr ⟨hf, h2.1, h2.2⟩, fun h => absurd h hf⟩
 ·rw [if_neg hi, if_neg hi]
  exact ⟨.inl rfl, fun _ => rfl⟩
section
variable {X : List Nat} {F : Base} {w0 : World} {H : Hp} {K : Value → Hp → Prop} {Hl G : Hp}
theorem CallE.mkG {f : Nat} {args : Array Value} {Q : Value → Hp → Prop} [tl : Tl H Hl G] (h : Does Tryz.prog (rdObj F G) f args [] Q) (sd : Dj Hl G) (hw : Wk G)
  (hk : ∀ v G1 G', Q v G1 → (∀ b o, rdObj (rdObj F G) G1 b = some o → rdObj F G' b = some o) → (Wk G1 → Wk G') → Dj Hl G' ∧ (∀ b o, rdObj F G b = some o → rdObj F G' b = some o) → K v (Hl ++ G')) :
  @CallE Tryz.prog X F w0 f args H ⟨K⟩ := by
 obtain rfl := tl.eq
 have d1 := Dj.iff.1 sd
 refine CallG.frame (F1 := rdObj F G) (H0 := []) (Hr := Hl ++ G) h (fun b o hb => ?_) (fun e h => by cases h) (fun e h => h) (fun e' _ e h => by cases h) fun v H' hq n1 d2 _ => ?_
 ·unfold rdObj at *
  cases hF : F b with
  | some o2 => simpa [hF] using hb
  | none =>
   simp only [hF] at hb ⊢
   rw [lk_append, lk_none fun e he e2 => d1 e he _ (lk_mem hb) e2.symm]
   exact hb
 ·rw [List.append_assoc]
  exact hk v H' (G ++ H') hq (fun _ _ => rdObj_app) (fun w' => hw.app w' fun e he e' he' => d2 e (List.mem_append_right _ he) e' he') ⟨sd.app (Dj.iff.2 fun e he e' he' => d2 e (List.mem_append_left _ he) e' he'), fun _ _ => rdObj_app1⟩
end
theorem mustS_le {ws : Ws} {s : St} {t : Str} (h : s.p ≤ ws.length) : (mustS ws s t).p ≤ ws.length := by
 unfold mustS failS
 split
 ·rename_i h2
  have := isS_range h2
  show s.p + 1 ≤ (ws.length : Int)
  omega
 ·split <;> exact h
theorem endQ_go {ws : Ws} (hE : WsEnd ws) (m : St) : Go0 ws m (endQ ws m) := by
 unfold endQ
 split
 ·rename_i h; exact .adv hE (by omega)
 ·exact ⟨fun h => by show 0 ≤ (failS ws m 10).p + 1; have := failS_p (ws := ws) (e := 10) h; omega, fun h => absurd h (failS_e (by decide))⟩
theorem CallE.qcond {X : List Nat} {F : Base} {w0 : World} {H : Hp} {K : Value → Hp → Prop} {Hl G : Hp} {ws : Ws} {l : Value} {s : St} {x : Pol} {va vc : Value} [tl : Tl H Hl G] (wh : Bool) (hws : WsOk ws) (hW : HasW F ws l) (hE : EndW ws) (hWE : WsEnd ws) (hs : 0 ≤ s.p ∧ s.p < ws.length) (hI : s.e = 0 → InS ws (adv s)) (hva : oneCell va = true)
  (hcs : SlC (rdObj F G) vc x.conds) (hcl : x.conds.length ≤ 70000) (sd : Dj Hl G) (hw : Wk G)
  (hk : ∀ z vc' G', condP ws x wh (adv s) = z → z.1.conds.length ≤ x.conds.length + 1 → z.1.a = x.a → Go0 ws (adv s) z.2 → SlC (rdObj F G') vc' z.1.conds → Wk G' → Dj Hl G' → (∀ b o, rdObj F G b = some o → rdObj F G' b = some o) →
   K (.tuple #[PV l z.2, .agg (polC z.1 v0 va v0 vc').toArray]) (Hl ++ G')) :
  @CallE Tryz.prog X F w0 40 #[PV l s, .agg (polC x v0 va v0 vc).toArray, .bool wh] H ⟨K⟩ := by
 refine CallE.mkG (qcond_does (rdObj F G) hws (hW.mono le_up) hE hWE hs hI x va wh hva hcs hcl) sd hw ?_
 rintro _ G2 G3 ⟨_, rfl, ⟨vc2, rfl, k1⟩, k2⟩ k3 k4 ⟨k5, k6⟩
 exact hk _ vc2 G3 rfl condP_conds.1 condP_conds.2 (Go0.cond hWE) (k1.mono k3) (k4 k2) k5 k6
structure PqS where
 n : Nat
 x : Pol
 s : St
 vc : Value
 G : Hp
structure PqOk (F : Base) (ws : Ws) (s : St) (b2 b4 b5 b6 : Nat) (va : Value) (Y : Pol × St) (y : PqS) : Prop where
 Y : condsF ws y.n y.x y.s = Y
 n : y.s.e = 0 → (ws.length : Int) - y.s.p < y.n
 g : Go0 ws s y.s
 c : SlC (rdObj F y.G) y.vc y.x.conds
 u : SlU (rdObj F y.G) va y.x.a.list
 k : y.s.e = 0 → y.x.conds.length ≤ y.s.p.toNat
 nn : Nb b2 y.G ∧ Nb b4 y.G ∧ Nb b5 y.G ∧ Nb b6 y.G
 w : Wk y.G
abbrev zQ : Obj := .cells #[.slice none 0 0, .int .i64 0, .int .i64 0, .int .i64 0, .int .i64 0] 70 (0, 0)
set_option maxHeartbeats 4000000 in
theorem qone_does (F : Base) {ws : Ws} (hws : WsOk ws) {l : Value} (hW : HasW F ws l) (hE : EndW ws) (hWE : WsEnd ws) {s : St} (hI : InS ws s) (n : Int) (hn : I64 n) :
  Does Tryz.prog F 19 #[PV l s, .int .i64 n] [] (QP F l (policyR ws n s).2 (PolQ (policyR ws n s).1)) := by
 have hol := hW.one'
 have hwl := hW.len
 have hp := hI.1
 have hpl := hI.2
 have g : Go0 ws s s := .refl
 generalize hY : policyR ws n s = Y
 unfold policyR at hY
 refine Does.qp ?_
 refine does_of_svc (args := [PV _ s, .int .i64 n]) mixed Tryz.func19 low19 (Nat.le_of_ble_eq_true rfl) (fun w0 hw0 => ?_)
 simp only [*, fu19, ↓ZD, ZW, RO, simprocAttr]
 refine NewB.n ?_
 rintro b2 - hF2
 simp only [*, ↓ZD, ZW, RO, simprocAttr]
 refine NewB.n ?_
 rintro b4 ⟨_, _, -⟩ hF4
 simp only [*, ↓ZD, ZW, RO, simprocAttr]
 refine NewB.n ?_
 rintro b5 ⟨_, _, _, _, -⟩ hF5
 simp only [*, ↓ZD, ZW, RO, simprocAttr]
 refine CallE.pure (rshow_pure F n hn) ?_
 simp only [*, ↓ZD, ZW, RO, simprocAttr]
 refine conj.of (by have := shows_len hn; omega) ?_
 simp only [*, ↓ZD, ZW, RO, simprocAttr]
 refine NewB.n ?_
 rintro b6 ⟨_, _, _, _, _, _, -⟩ hF6
 simp only [*, ↓ZD, ZW, RO, simprocAttr]
 refine CallE.pure (rIs_pure F hW s _) ?_
 cases i1 : isS ws s [64]
 case' true =>
  rw [i1, if_pos rfl] at hY
  have hr := isS_range i1
  unfold idQ at hY
  have hq : (adv s).p = s.p + 1 := rfl
  replace g := g.trans (Go0.is hWE i1)
  have hp0 := g.1 hp
  have hle : (adv s).p ≤ ws.length := by omega
  simp (disch := first | assumption | exact Ne.symm (by assumption) | omega) only [*, ↓ZD, ZW, RO, simprocAttr]
  refine CallE.pure (qmust_pure F hW hE (p := adv s) hp0 _) ?_
  have hm0 := mustS_p (ws := ws) (p := adv s) (t := [105, 100]) hp0
  have hl0 := mustS_le (ws := ws) (s := adv s) (t := [105, 100]) hle
  replace g := g.trans (Go0.must hWE (s := adv s) (t := [105, 100]))
  generalize mustS ws (adv s) [105, 100] = m0 at *
  simp only [*, ↓ZD, ZW, RO, simprocAttr]
  refine CallE.pure (qmust_pure F hW hE (p := m0) hm0 _) ?_
  have hm1 := mustS_p (ws := ws) (p := m0) (t := [40]) hm0
  have hl1 := mustS_le (ws := ws) (s := m0) (t := [40]) hl0
  replace g := g.trans (Go0.must hWE (s := m0) (t := [40]))
  have hwl2 := hws.1
  generalize mustS ws m0 [40] = m at *
  have hl3 : m.p ≤ 65537 := by omega
  clear hm0 hl0 hr hq hp0 hle i1 hwl2
  simp only [*, ↓ZD, ZW, RO, simprocAttr]
  refine CallE.pure (qhere_pure F hW hE hm1) ?_
  simp only [*, wdV, ↓ZD, ZW, RO, simprocAttr]
  refine NewB.n ?_
  rintro b7 hb7 hF7
  simp only [Nb_cons, Nb_nil, and_true] at hb7
  simp only [*, wdV, ↓ZD, ZW, RO, simprocAttr]
  replace g := g.trans (endQ_go hWE m)
  by_cases hk : wk ws m = 3
  case' pos =>
   have k1 : ((((wdAt ws m.p).1.1 : Nat) : Int) != 3) = false := by simpa [wk] using hk
   have eq : endQ ws m = adv m := by unfold endQ; rw [if_pos hk]
   rw [eq] at hY g
   have hp0 := g.1 hp
   simp (disch := first | assumption | exact Ne.symm (by assumption) | omega) only [*, ↓ZD, ZW, RO, simprocAttr]
   refine CallE.pure (qmust_pure F hW hE (p := adv m) hp0 _) ?_
   replace g := g.trans (Go0.must hWE (s := adv m) (t := [41]))
   generalize mustS ws (adv m) [41] = s1 at *
   have hp0 := g.1 hp
  case' neg =>
   have k1 : ((((wdAt ws m.p).1.1 : Nat) : Int) != 3) = true := by simpa [wk] using hk
   have eq : endQ ws m = adv (failS ws m 10) := by unfold endQ; rw [if_neg hk]
   rw [eq] at hY g
   have hp0 := g.1 hp
   have hl2 : (failS ws m 10).p ≤ 65537 := by unfold failS; split <;> exact hl3
   have hl4 : 0 ≤ (failS ws m 10).p := failS_p hm1
   simp only [*, ↓ZD, ZW, RO, simprocAttr]
   refine CallE.pure (qfail_pure _ hol m 10 _) ?_
   rw [failA_S]
   simp (disch := first | assumption | exact Ne.symm (by assumption) | omega) only [*, ↓ZD, ZW, RO, simprocAttr]
   refine CallE.pure (qmust_pure F hW hE (p := adv (failS ws m 10)) hp0 _) ?_
   replace g := g.trans (Go0.must hWE (s := adv (failS ws m 10)) (t := [41]))
   generalize mustS ws (adv (failS ws m 10)) [41] = s1 at *
   have hp0 := g.1 hp
  all_goals
   unfold wtx at hY
   generalize (wdAt ws m.p).1.2.1 = tt at *
   clear k1 eq hk
   simp only [*, ↓ZD, ZW, RO, simprocAttr]
 case' false =>
  rw [i1, if_neg (by simp)] at hY
  simp only [List.cons_append, List.nil_append] at hY
  simp only [*, ↓ZD, ZW, RO, simprocAttr]
  generalize 112 :: 111 :: 108 :: 105 :: 99 :: 121 :: shows n = tt at *
  clear i1 g
  obtain ⟨s1, hs1⟩ : ∃ s1, s1 = s := ⟨s, rfl⟩
  have g : Go0 ws s s1 := hs1 ▸ .refl
  rw [← hs1] at hY ⊢
  clear hs1
  have hp0 := g.1 hp
 all_goals
  refine CallE.pure (rIs_pure F hW s1 _) ?_
  unfold permB permT forbT at hY
  cases i2 : isS ws s1 [112, 101, 114, 109, 105, 116]
  case' true =>
   have hr := isS_range i2
   have hq : (adv s1).p = s1.p + 1 := rfl
   rw [i2, if_pos rfl] at hY
   simp (disch := first | assumption | exact Ne.symm (by assumption) | omega) only [*, ↓ZD, ZW, RO, simprocAttr]
   replace g := g.trans (Go0.is hWE i2)
   have e1 : s1.p + 1 = (adv s1).p := rfl
   have e2 : s1.deep = (adv s1).deep := rfl
   have e3 : s1.e = (adv s1).e := rfl
   have e4 : s1.bad = (adv s1).bad := rfl
   generalize adv s1 = s2 at *
   have hp0 := g.1 hp
   rw [e1, e2, e3, e4]
   clear e1 e2 e3 e4 i2 hr hq
  case' false =>
   rw [i2, if_neg (by simp)] at hY
   clear i2
   simp only [*, ↓ZD, ZW, RO, simprocAttr]
   refine CallE.pure (qmust_pure F hW hE (p := s1) hp0 _) ?_
   replace g := g.trans (Go0.must hWE (s := s1) (t := [102, 111, 114, 98, 105, 100]))
   generalize mustS ws s1 [102, 111, 114, 98, 105, 100] = s2 at *
   have hp0 := g.1 hp
   simp only [*, ↓ZD, ZW, RO, simprocAttr]
  all_goals
   unfold bodyP at hY
   dsimp only at hY
   refine CallE.pure (qmust_pure F hW hE (p := s2) hp0 _) ?_
   replace g := g.trans (Go0.must hWE (s := s2) (t := [40]))
   generalize mustS ws s2 [40] = s3 at *
   have hp0 := g.1 hp
   simp only [*, ↓ZD, ZW, RO, simprocAttr]
   refine CallE.pure (qscope_pure F hws hW hE (p := s3) hp0 _) ?_
   replace g := g.trans (Go0.scope hWE (s := s3) (nm := prN))
   unfold prN at g hY
   generalize scopeP ws s3 [112, 114, 105, 110, 99, 105, 112, 97, 108] = pp at *
   obtain ⟨pp, s4⟩ := pp
   dsimp only at g hY ⊢
   replace hp0 := g.1 hp
   unfold scV
   simp only [*, ↓ZD, ZW, RO, simprocAttr]
   refine CallE.pure (qmust_pure F hW hE (p := s4) hp0 _) ?_
   replace g := g.trans (Go0.must hWE (s := s4) (t := [44]))
   generalize mustS ws s4 [44] = s5 at *
   have hp0 := g.1 hp
   simp only [*, ↓ZD, ZW, RO, simprocAttr]
   refine CallE.mk0 (qaction_does F hws hW hE (p := s5) hp0) ?_
   replace g := g.trans (Go0.action hWE (s := s5))
   generalize actionP ws s5 = aa at *
   obtain ⟨aa, s6⟩ := aa
   dsimp only at g hY ⊢
   replace hp0 := g.1 hp
   rintro r G ⟨r, rfl, ⟨va, rfl, hu⟩, wkG⟩ djG
   simp only [Dj_cons, Dj_nil, and_true] at djG
   have hva : oneCell va = true := by obtain ⟨_, _, rfl, _⟩ := hu; rfl
   unfold scV
   simp only [*, ↓ZD, ZW, RO, simprocAttr]
   refine CallE.pure (qmust_pure F hW hE (p := s6) hp0 _) ?_
   replace g := g.trans (Go0.must hWE (s := s6) (t := [44]))
   generalize mustS ws s6 [44] = s7 at *
   have hp0 := g.1 hp
   simp only [*, ↓ZD, ZW, RO, simprocAttr]
   refine CallE.pure (qscope_pure F hws hW hE (p := s7) hp0 _) ?_
   replace g := g.trans (Go0.scope hWE (s := s7) (nm := reN))
   unfold reN at g hY
   generalize scopeP ws s7 [114, 101, 115, 111, 117, 114, 99, 101] = rr at *
   obtain ⟨rr, s8⟩ := rr
   dsimp only at g hY ⊢
   replace hp0 := g.1 hp
   unfold scV
   simp only [*, ↓ZD, ZW, RO, simprocAttr]
   refine CallE.pure (qmust_pure F hW hE (p := s8) hp0 _) ?_
   replace g := g.trans (Go0.must hWE (s := s8) (t := [41]))
   generalize mustS ws s8 [41] = s9 at *
   have hp0 := g.1 hp
   simp only [*, ↓ZD, ZW, RO, simprocAttr]
   refine LoopL.inv (PqOk F ws s b2 b4 b5 b6 va Y) (fun y => [(2, some (.pointer (some ⟨b2, 0, none⟩))), (4, some (.pointer (some ⟨b4, 0, none⟩))), (5, some (.pointer (some ⟨b5, 0, none⟩))), (6, some (.pointer (some ⟨b6, 0, none⟩)))])
    (fun y => (b6, PolO y.x va y.vc) :: (b5, zP) :: (b4, zQ) :: (b2, PO l y.s) :: y.G) (fun y => y.n) ⟨ws.length + 1, _, s9, .slice none 0 0, G⟩ ⟨hY, fun _ => by simp only; omega, g, ⟨[], SlN.nil, trivial⟩, hu, fun _ => Nat.zero_le _, by simp only [*, ↓ZD, ZW, RO, simprocAttr], wkG⟩ (by simp only [*, ↓ZD, ZW, RO, simprocAttr]) (by simp only [*, ↓ZD, ZW, RO, simprocAttr]) ?_
   rintro ⟨m, x1, s0, vc, G1⟩ ⟨y1, y2, y3, y4, y5, y6, y7, y8⟩
   clear hY hu djG wkG hp0 g
   dsimp only at y1 y2 y3 y4 y5 y6 y7 y8 ⊢
   have hp0 := y3.1 hp
   have hvc : oneCell vc = true := by obtain ⟨_, ⟨_, _, rfl, _⟩, _⟩ := y4; rfl
   by_cases he : s0.e = 0
   ·have hin : InS ws s0 := (y3.2 he).2.2 hI
    obtain ⟨m, rfl⟩ : ∃ k, m = k + 1 := ⟨m - 1, by have := hin.2; have := y2 he; omega⟩
    replace y2 := y2 he
    replace y6 := y6 he
    have hd : (s0.e == 0) = true := by simpa using he
    have hcl : x1.conds.length ≤ 70000 := by have := hin.2; have := hws.1; omega
    rw [condsF, if_neg (by simpa using he)] at y1
    replace he : id (s0.e = 0) := he
    simp only [*, ↓ZD, ZW, RO, simprocAttr]
    refine CallE.pure (rIs_pure F hW s0 _) ?_
    unfold whenT unlT at y1
    cases i3 : isS ws s0 [119, 104, 101, 110]
    case' true =>
     rw [i3, if_pos rfl] at y1
     simp only [*, ↓ZD, ZW, RO, simprocAttr]
     refine CallQ.of (.bool false) trivial ?_
    case' false =>
     rw [i3, if_neg (by simp)] at y1
     simp only [*, ↓ZD, ZW, RO, simprocAttr]
     refine CallQ.of _ (rIs_pure _ (hW.mono le_up) s0 _) ?_
     clear i3
     cases i3 : isS ws s0 [117, 110, 108, 101, 115, 115]
     case' false =>
      rw [i3, if_neg (by simp)] at y1
      subst y1
      simp only [*, ↓ZD, ZW, RO, simprocAttr]
      refine TreeL.open ?_
      simp only [*, ↓ZD, ZW, RO, simprocAttr]
      refine CallQ.of _ (qmust_pure _ (hW.mono le_up) hE (p := s0) hp0 _) ?_
      generalize mustS ws s0 [59] = s9
      simp only [*, ↓ZD, ZW, RO, simprocAttr]
      repeat' (first | exact ⟨_, G1, rfl, ⟨_, rfl, va, vc, rfl, y5, y4⟩, y8, by simp +contextual⟩ | apply And.intro)
     rw [i3, if_pos rfl] at y1
    all_goals
     simp only [*, ↓ZD, ZW, RO, simprocAttr]
     have g2 := y3.trans (Go0.is hWE i3)
     have hr := isS_range i3
     have hq : (adv s0).p = s0.p + 1 := rfl
     refine CallE.qcond _ hws hW hE hWE hr (fun he => (g2.2 he).2.2 hI) hva y4 hcl (by simp only [*, ↓ZD, ZW, RO, simprocAttr]) y8 ?_
     intro z vc2 G3 hz c1 c2 g3 k1 k4 k5 k6
     simp only [Dj_cons, Dj_nil, and_true] at k5
     have hvc2 : oneCell vc2 = true := by obtain ⟨_, ⟨_, _, rfl, _⟩, _⟩ := k1; rfl
     rw [hz] at y1
     clear hz
     simp only [*, ↓ZD, ZW, RO, simprocAttr]
     refine invK.on ⟨m, z.1, z.2, vc2, G3⟩ ⟨y1, ?_, g2.trans g3, k1, ?_, ?_, by simp only [*, ↓ZD, ZW, RO, simprocAttr], k4⟩ (by show m < m + 1; omega) (by simp only [*, ↓ZD, ZW, RO, simprocAttr]) (by simp only [*, ↓ZD, ZW, RO, simprocAttr])
     ·intro hz
      have := (g3.2 hz).2.1
      show (ws.length : Int) - z.2.p < m
      omega
     ·show SlU _ va z.1.a.list
      rw [c2]; exact y5.mono k6
     ·intro hz
      have := (g3.2 hz).2.1
      show z.1.conds.length ≤ z.2.p.toNat
      have := c1
      omega
   ·have hd : (s0.e == 0) = false := by simpa using he
    rw [condsF_err he] at y1
    subst y1
    simp only [*, ↓ZD, ZW, RO, simprocAttr]
    refine TreeL.open ?_
    simp only [*, ↓ZD, ZW, RO, simprocAttr]
    refine CallQ.of _ (qmust_pure _ (hW.mono le_up) hE (p := s0) hp0 _) ?_
    rw [mustS_err he]
    simp only [*, ↓ZD, ZW, RO, simprocAttr]
    repeat' (first | exact ⟨_, G1, rfl, ⟨_, rfl, va, vc, rfl, y5, y4⟩, y8, by simp +contextual⟩ | apply And.intro)
end Go.Proofs.YtnenbihkcjgddaaGreatDoor
namespace Go.Proofs.YtnenbihkcjgddaaGreatDoor
open Go Go.Eng
set_option maxHeartbeats 1000000
set_option linter.unusedSimpArgs false
set_option linter.unusedVariables false
set_option maxRecDepth 20000
def polsQ (ws : Ws) : Nat → List Pol → St → List Pol × St
 | 0, l, s => (l, s)
 | n + 1, l, s => if wk ws s = 0 then (l, s) else if (policyR ws l.length s).2.e ≠ 0 then ([], (policyR ws l.length s).2) else polsQ ws n (l ++ [(policyR ws l.length s).1]) (policyR ws l.length s).2
theorem polsQ_eq {ws : Ws} : ∀ (n : Nat) (l : List Pol) (s : St), polsR (polsQ ws n l s) = polsR (polsF ws n l s)
 | 0, l, s => rfl
 | n + 1, l, s => by
  obtain ⟨h1, h2⟩ := policyR_agr ws l.length s
  rw [polsQ, polsF, h1.e]
  by_cases hk : wk ws s = 0
  ·rw [if_pos hk, if_pos hk]
  ·rw [if_neg hk, if_neg hk]
   by_cases he : (policyP ws l.length s).2.e = 0
   ·rw [if_neg (by simpa using he), if_neg (by simpa using he), h2 he]
    exact polsQ_eq n _ _
   ·rw [if_pos he, if_pos he, polsR_err he, polsR_err (by rw [h1.e]; exact he), h1.e, h1.bad]
theorem twiceB_iff : ∀ l : List Str, twiceB l = true ↔ ∃ i k, k < i ∧ i < l.length ∧ l.getD i [] = l.getD k []
 | [] => by simp [twiceB]
 | x :: l => by
  rw [twiceB, Bool.or_eq_true, twiceB_iff l]
  constructor
  ·rintro (h | ⟨i, k, h1, h2, h3⟩)
   ·obtain ⟨i, hi, he⟩ := List.getElem_of_mem (List.contains_iff_mem.1 h)
    refine ⟨i + 1, 0, by omega, by simpa using hi, ?_⟩
    rw [List.getD_cons_succ, List.getD_cons_zero, List.getD_eq_getElem?_getD, List.getElem?_eq_getElem hi, he]; rfl
   ·exact ⟨i + 1, k + 1, by omega, by simpa using h2, by simpa using h3⟩
  ·rintro ⟨i, k, h1, h2, h3⟩
   obtain ⟨i, rfl⟩ : ∃ j, i = j + 1 := ⟨i - 1, by omega⟩
   rw [List.length_cons] at h2
   rw [List.getD_cons_succ] at h3
   cases k with
   | zero =>
    refine .inl (List.contains_iff_mem.2 ?_)
    rw [List.getD_cons_zero, List.getD_eq_getElem?_getD, List.getElem?_eq_getElem (by omega), Option.getD_some] at h3
    rw [← h3]; exact List.getElem_mem _
   | succ k =>
    rw [List.getD_cons_succ] at h3
    exact .inr ⟨i, k, by omega, by omega, h3⟩
theorem rdObj_flat (F : Base) (H : Hp) : rdObj (rdObj F H) [] = rdObj F H := by
 funext b
 unfold rdObj
 cases F b with
 | some o => rfl
 | none => cases h : lk H b <;> simp [lk, h]
theorem ldV_flat {F : Base} {H : Hp} {n : Nat} {g : Bool} {p : Value} : ldV (rdObj F H) [] n g p = ldV F H n g p := by
 unfold ldV qev cellsAt
 rw [rdObj_flat]
theorem ids_at {F R : Base} {H : Hp} {base : Option Addr} {c : Nat} {gs : List (List Value)} {l : List Pol} (h : SlN 21 (rdObj F H) (.slice base gs.length c) gs) (hr : All2 (RepPol R) gs l) {a : Nat} (ha : a < l.length) :
  ∃ b off, base = some ⟨b, off, none⟩ ∧ ldV F H 1 false (.pointer (some ⟨b, off + a * 21, none⟩)) = some (True, .string (bs ((l.map Pol.id).getD a []))) := by
 obtain ⟨a1, c1, e, -, -, h4⟩ := h
 injection e with e1 e2 e3
 subst e1
 have hx : l[a]? = some l[a] := List.getElem?_eq_getElem ha
 obtain ⟨g, hg, hgx⟩ := hr.at hx
 obtain ⟨b, off, rfl, -, k⟩ := (h4 a g hg).all
 refine ⟨b, off, rfl, ?_⟩
 have := k 0 (by decide) []
 rw [Nat.add_zero, ldV_flat] at this
 rw [this]
 obtain ⟨va, vc, rfl, -, -⟩ := hgx
 simp [ha]
structure PrOk (F : Base) (ws : Ws) (lv : Value) (b8 : Nat) (Y : List Pol × St) (y : PsS) : Prop where
 Y : polsQ ws y.n y.l y.s = Y
 n : (ws.length : Int) - y.s.p < y.n
 e : y.s.e = 0
 i : InS ws y.s
 W : HasW (rdObj F y.G) ws lv
 o : OwnS F 21 48 y.gs.flatten y.gs.length y.v y.Ho
 r : All2 (RepPol (rdObj F y.G)) y.gs y.l
 c : y.l.length ≤ y.s.p.toNat
 nn : Nb b8 y.Ho ∧ Nb b8 y.G ∧ Dj y.Ho y.G
 w : Wk y.G
set_option maxHeartbeats 4000000 in
theorem qparse_does (F : Base) (t : Str) (ht : t.length ≤ 9223372036854775807) : Does Tryz.prog F 8 #[.string (bs t)] [] (ParsePs F (polsS t)) := by
 refine Does.shr (K := fun r H' => ∃ v Hx, r = .tuple #[v, .int .i64 (polsS t).2.1, .int .i64 (polsS t).2.2] ∧ SlP (rdObj F Hx) v (polsS t).1 ∧ ∀ e ∈ Hx, e ∈ H') ?_ fun r H' ⟨v, Hx, h1, h2, h3⟩ => ⟨Hx, h3, v, h1, h2⟩
 refine does_of_svc (args := [.string (bs t)]) mixed Tryz.func8 low8 (Nat.le_of_ble_eq_true rfl) (fun w0 hw0 => ?_)
 simp only [*, fu8, ↓ZD, ZW, RO, simprocAttr]
 refine CallE.mk0 (rwords_does F t ht) ?_
 intro v H1 hv _
 unfold WordsPost at hv
 unfold polsS
 by_cases hl : 65536 < t.length
 ·rw [if_pos hl] at hv ⊢
  obtain ⟨rfl, rfl⟩ := hv
  simp only [*, ↓ZD, ZW, RO, simprocAttr]
  exact ⟨v0, [], rfl, SlP.nil, by simp⟩
 rw [if_neg hl] at hv ⊢
 cases hw : words t with
 | error y =>
  obtain ⟨e, a⟩ := y
  rw [hw] at hv
  obtain ⟨rfl, rfl⟩ := hv
  have he := w1_err _ _ _ _ hw
  have hd : (e != 0) = true := by simpa using he
  simp only [*, ↓ZD, ZW, RO, simprocAttr]
  exact ⟨v0, [], rfl, SlP.nil, by simp⟩
 | ok ws =>
  rw [hw] at hv
  obtain ⟨v, ho, rfl⟩ := hv
  have hws := words_ok (by omega) hw
  have hne := words_ne' hw
  have hWE := words_end hw
  have hE := words_endW hw
  rcases ho.out with ⟨h0, -⟩ | ⟨bw, cap, sp, rfl, rfl, hFw, h1, h2, h3, h4⟩
  ·exact absurd (cellsW_nil h0) hne
  have hW1 : HasW (rdObj F [(bw, .cells (cellsW ws ++ sp).toArray 71 (0, 0))]) ws (.slice (some ⟨bw, 0, none⟩) ws.length cap) := ⟨bw, cap, sp, _, _, rfl, rdObj_hd hFw, h3, h4, hne⟩
  have wG : Wk [(bw, Obj.cells (cellsW ws ++ sp).toArray 71 (0, 0))] := Wk.cb Wk.nil trivial
  have hz : (ws.length : Int) - (st0 0).p < ((ws.length + 1 : Nat) : Int) := by simp only [st0]; omega
  have hz2 : InS ws (st0 0) := ⟨Int.le_refl _, by have := List.length_pos_iff.2 hne; simp only [st0]; omega⟩
  clear ho
  simp only [*, ↓ZD, ZW, RO, simprocAttr]
  refine NewB.n ?_
  rintro b8 ⟨_, _, _⟩ hFb
  have gen : ∀ {Y : List Pol × St}, polsQ ws (ws.length + 1) [] (st0 0) = Y → PrOk F ws (.slice (some ⟨bw, 0, none⟩) ws.length cap) b8 Y ⟨ws.length + 1, st0 0, [], .slice none 0 0, [], [], [(bw, .cells (cellsW ws ++ sp).toArray 71 (0, 0))]⟩ := fun h =>
   ⟨h, hz, rfl, hz2, hW1, .nil, trivial, Nat.zero_le _, by simp only [*, ↓ZD, ZW, RO, simprocAttr], wG⟩
  dsimp only
  rw [show polsL ws = polsR (polsF ws (ws.length + 1) [] (st0 0)) from rfl, ← polsQ_eq]
  generalize hY : polsQ ws (ws.length + 1) [] (st0 0) = Y
  have g0 := gen hY
  clear gen hz hz2 hY
  simp only [*, ↓ZD, ZW, RO, simprocAttr]
  refine LoopL.inv (PrOk F ws (.slice (some ⟨bw, 0, none⟩) ws.length cap) b8 Y) (fun y => [(8, some (.pointer (some ⟨b8, 0, none⟩))), (9, some y.v), (2, some (.slice none 0 0)), (3, some (.int .i64 0)), (4, some (.int .i64 0))])
   (fun y => (b8, PO (.slice (some ⟨bw, 0, none⟩) ws.length cap) y.s) :: (y.Ho ++ y.G)) (fun y => y.n) _ g0 (by simp only [*, ↓ZD, ZW, RO, simprocAttr]) (by simp only [*, ↓ZD, ZW, RO, simprocAttr]; exact rfl) ?_
  clear g0 hW1 wG
  rintro ⟨n, s, l, v, gs, Ho, G⟩ ⟨y1, y2, y3, y4, y5, y6, y7, y8, y9, y10⟩
  dsimp only at y1 y2 y3 y4 y5 y6 y7 y8 y9 y10 ⊢
  have nf := y6.noF
  have wk1 := OwnS.sub y6
  obtain ⟨base, capo, hv, hc⟩ := y6.len_le
  subst hv
  obtain ⟨n, rfl⟩ : ∃ k, n = k + 1 := ⟨n - 1, by have := y4.2; omega⟩
  have hp0 := y4.1
  replace y3 : id (s.e = 0) := y3
  simp only [*, ↓ZD, ZW, RO, simprocAttr]
  refine CallE.pureH (qhere_pure _ (y5.mono fun _ _ h => hle_rd (by simp only [*, ↓ZD, ZW, RO, simprocAttr]) h) hE hp0) ?_
  rw [polsQ] at y1
  simp only [*, wf0, wsz, ↓ZD, ZW, RO, simprocAttr]
  have hlen := y7.len
  rw [← hlen] at y1
  replace hlen : id (gs.length = l.length) := hlen
  refine ⟨fun h => ?_, fun h => ?_⟩
  ·have hk : wk ws s ≠ 0 := by unfold wk; simpa using h
   rw [if_neg hk] at y1
   have ag := policyR_agr ws gs.length s
   have hq : (policyR ws gs.length s).2.e = 0 → s.p + 1 ≤ (policyR ws gs.length s).2.p ∧ InS ws (policyR ws gs.length s).2 := fun he => by
    have he2 : (policyP ws gs.length s).2.e = 0 := ag.1.e ▸ he
    rw [ag.2 he2]
    obtain ⟨g1, g2⟩ := policy_go hWE (n := (gs.length : Int)) (s := s)
    exact ⟨g2 he2, (g1.2 he2).2.2 y4⟩
   clear ag
   have hlw := hws.1
   have hpl : s.p < ws.length := y4.2
   refine NewB.n ?_
   rintro b10 h10 hF10
   simp only [Nb_cons, Nb_app, Nb_nil] at h10
   simp only [*, ↓ZD, ZW, RO, simprocAttr]
   refine CallE.mkG (qone_does (rdObj F G) hws y5 hE hWE y4 gs.length (by have : gs.length = l.length := hlen; unfold I64; omega)) (by simp only [*, ↓ZD, ZW, RO, simprocAttr]) y10 ?_
   generalize policyR ws gs.length s = z at *
   obtain ⟨x, s2⟩ := z
   dsimp only at y1 hq ⊢
   rintro _ G2 G3 ⟨_, rfl, ⟨cs, rfl, va, vc, rfl, hu, hcn⟩, w2⟩ up1 w3 ⟨dj, up⟩
   have hu := hu.mono up1
   have hcn := hcn.mono up1
   replace w3 := w3 w2
   clear up1 w2
   simp only [Dj_cons, Dj_nil, Dj_app] at dj
   have hva : oneCell va = true := by obtain ⟨_, _, rfl, _⟩ := hu; rfl
   have hvc : oneCell vc = true := by obtain ⟨_, ⟨_, _, rfl, _⟩, _⟩ := hcn; rfl
   simp only [*, ↓ZD, ZW, RO, simprocAttr]
   refine ⟨fun h => ?_, fun h => ?_⟩
   ·have he2 : s2.e ≠ 0 := by simpa using h
    rw [if_pos he2] at y1
    subst y1
    rw [polsR_err he2]
    exact ⟨v0, [], rfl, SlP.nil, by simp⟩
   ·have he2 : s2.e = 0 := by simpa using h
    rw [if_neg (by simpa using he2)] at y1
    obtain ⟨g2, g3⟩ := hq he2
    replace he2 : id (s2.e = 0) := he2
    refine NewB.n ?_
    intro bz hz hFz
    simp only [Nb_cons, Nb_app, Nb_nil] at hz
    simp only [*, ↓ZD, ZW, RO, simprocAttr]
    have hal : ∀ v ∈ polC x v0 va v0 vc, oneCell v = true := by
     simp only [List.forall_mem_cons, List.not_mem_nil, false_implies, implies_true, and_true]
     simp only [*, ↓ZD, ZW, RO, simprocAttr]
    have dj2 : Dj G3 Ho := Dj.symm (by simp only [*, ↓ZD, ZW, RO, simprocAttr])
    have hbd : (2 * (gs.length + 1) + 192) * 312 ≤ 281474976710656 := by clear hz h10; have : gs.length = l.length := hlen; omega
    refine EfL.more (m := 1) (nw := polC x v0 va v0 vc) y6 (by simp only [*, ↓ZD, ZW, RO, simprocAttr]) (rows1 hFz rfl) rfl hal (by simp) hbd ?_
    intro bk capn sp2 hs hcap hcm hFn h2
    simp only [Nb_cons, Nb_app, Nb_nil] at h2
    simp only [*, ↓ZD, ZW, RO, simprocAttr]
    refine invK.on ⟨n, s2, l ++ [x], .slice (some ⟨bk, 0, none⟩) (gs.length + 1) capn, gs ++ [polC x v0 va v0 vc], [(bk, .cells (gs.flatten ++ polC x v0 va v0 vc ++ sp2).toArray 48 (0, 0))], G3⟩ ⟨y1, ?_, he2, g3, y5.mono up, ?_, (y7.mono fun _ _ => RepPol.mono up).snoc ⟨va, vc, rfl, hu, hcn⟩, ?_, by simp only [*, ↓ZD, ZW, RO, simprocAttr], w3⟩ (by show n < n + 1; omega) (by simp only [*, ↓ZD, ZW, RO, simprocAttr]) (by simp only [*, ↓ZD, ZW, RO, simprocAttr])
    ·show (ws.length : Int) - s2.p < n
     clear hz h10 h2
     omega
    ·exact OwnS.mk sp2 hFn (by simp) (by simp) (by simp only [List.flatten_append, List.length_append, flat21 y7, List.flatten_cons, List.flatten_nil, List.append_nil, List.length_cons, List.length_nil, Nat.add_mul]) (by simpa using hs) (by simpa using hcap) hcm
    ·show (l ++ [x]).length ≤ s2.p.toNat
     clear hz h10 h2
     rw [List.length_append, List.length_singleton]
     omega
  ·have hk : wk ws s = 0 := by unfold wk; simpa using h
   rw [if_pos hk] at y1
   subst y1
   have hsl : SlN 21 (rdObj F ((b8, PO (.slice (some ⟨bw, 0, none⟩) ws.length cap) s) :: (Ho ++ G))) (.slice base gs.length capo) gs := SlN.own y6 (All2.all (fun _ _ h => RepPol.len h) y7) (hle_sub (by simp only [*, ↓ZD, ZW, RO, simprocAttr]))
   have ids : ∀ a, a < gs.length → ∃ b off, base = some ⟨b, off, none⟩ ∧ ldV F ((b8, PO (.slice (some ⟨bw, 0, none⟩) ws.length cap) s) :: (Ho ++ G)) 1 false (.pointer (some ⟨b, off + a * 21, none⟩)) = some (True, .string (bs ((l.map Pol.id).getD a []))) := fun a ha => ids_at hsl y7 (hlen ▸ ha)
   have up : ∀ b o, rdObj F G b = some o → rdObj F (Ho ++ G) b = some o := fun _ _ h => rdObj_r (Dj.iff.1 y9.2.2) h
   have tw := twiceB_iff (l.map Pol.id)
   rw [List.length_map, ← show gs.length = l.length from hlen] at tw
   have hs2 : SlP (rdObj F (Ho ++ G)) (.slice base gs.length capo) l := ⟨gs, SlN.own y6 (All2.all (fun _ _ h => RepPol.len h) y7) (fun e he => (wk1.app y10 (Dj.iff.1 y9.2.2)) e (List.mem_append_left _ he)), y7.mono fun _ _ => RepPol.mono up⟩
   have hN : gs.length ≤ 70000 := by have := y4.2; have := hws.1; have : gs.length = l.length := hlen; omega
   clear hsl up hlen
   generalize gs.length = N at *
   simp only [*, ↓ZD, ZW, RO, simprocAttr]
   refine LoopL.inv (α := Nat) (fun i => i ≤ N ∧ ∀ a, a < i → ∀ k, k < a → (l.map Pol.id).getD a [] ≠ (l.map Pol.id).getD k []) (fun i => [(9, some (.slice base N capo)), (11, some (.int .i64 i))])
    (fun i => (b8, PO (.slice (some ⟨bw, 0, none⟩) ws.length cap) s) :: (Ho ++ G)) (fun i => N - i) 0 ⟨Nat.zero_le _, fun a h => absurd h (Nat.not_lt_zero _)⟩ (by simp only [*, ↓ZD, ZW, RO, simprocAttr]) (by simp only [*, ↓ZD, ZW, RO, simprocAttr]) ?_
   rintro i ⟨hi, hall⟩
   by_cases hlt : i < N
   ·have hd : decide ((i : Int) < (N : Int)) = true := by simp; omega
    simp only [*, ↓ZD, ZW, RO, simprocAttr]
    refine LoopL.inv (α := Nat) (fun k => k ≤ i ∧ ∀ k', k' < k → (l.map Pol.id).getD i [] ≠ (l.map Pol.id).getD k' []) (fun k => [(9, some (.slice base N capo)), (11, some (.int .i64 i)), (12, some (.int .i64 k))])
     (fun k => (b8, PO (.slice (some ⟨bw, 0, none⟩) ws.length cap) s) :: (Ho ++ G)) (fun k => i - k) 0 ⟨Nat.zero_le _, fun a h => absurd h (Nat.not_lt_zero _)⟩ (by simp only [*, ↓ZD, ZW, RO, simprocAttr]) (by simp only [*, ↓ZD, ZW, RO, simprocAttr]) ?_
    rintro k ⟨hk2, hallk⟩
    by_cases hlk : k < i
    ·have hdk : decide ((k : Int) < (i : Int)) = true := by simp; omega
     obtain ⟨ba, oa, e1, hla⟩ := ids i hlt
     obtain ⟨bb, ob, e2, hlb⟩ := ids k (by omega)
     rw [e1] at e2
     injection e2 with e2
     injection e2 with e2 e3
     subst e2 e3
     subst e1
     simp only [*, ↓ZD, ZW, RO, simprocAttr]
     refine conj.of (by omega) ?_
     simp only [*, Int.toNat_natCast, ↓hla, ↓hlb, ↓ZD, ZW, RO, simprocAttr]
     refine conj.of (by omega) ?_
     simp only [*, Int.toNat_natCast, ↓hla, ↓hlb, ↓ZD, ZW, RO, simprocAttr]
     refine ⟨fun h => ?_, fun h => ?_⟩
     ·have h := beq_iff_eq.1 h
      rw [polsR_two y3 (tw.2 ⟨i, k, hlk, hlt, h⟩)]
      exact ⟨v0, [], rfl, SlP.nil, by simp⟩
     ·have h := beq_eq_false_iff_ne.1 h
      simp (disch := first | assumption | exact Ne.symm (by assumption) | omega) only [*, ↓ZD, ZW, RO, simprocAttr]
      refine invK.on (k + 1) ⟨by omega, fun k' hk' => ?_⟩ (by omega) (by simp only [*, ↓ZD, ZW, RO, simprocAttr]; rfl) (by simp only [*, ↓ZD, ZW, RO, simprocAttr])
      by_cases hkk : k' = k
      ·subst hkk; exact h
      ·exact hallk k' (by omega)
    ·have hdk : decide ((k : Int) < (i : Int)) = false := by simp; omega
     obtain rfl : k = i := by omega
     simp (disch := first | assumption | exact Ne.symm (by assumption) | omega) only [*, ↓ZD, ZW, RO, simprocAttr]
     refine invK.on (k + 1) ⟨by omega, fun a ha k' hk' => ?_⟩ (by omega) (by simp only [*, ↓ZD, ZW, RO, simprocAttr]; rfl) (by simp only [*, ↓ZD, ZW, RO, simprocAttr])
     by_cases hak : a = k
     ·subst hak; exact hallk k' hk'
     ·exact hall a (by omega) k' hk'
   ·have hd : decide ((i : Int) < (N : Int)) = false := by simp; omega
    obtain rfl : i = N := by omega
    have hf : twiceB (l.map Pol.id) = false := by
     cases h : twiceB (l.map Pol.id) with
     | false => rfl
     | true =>
      obtain ⟨a, k, h1, h2, h3⟩ := tw.1 h
      exact absurd h3 (hall a h2 k h1)
    rw [polsR_ok y3 hf]
    simp only [*, ↓ZD, ZW, RO, simprocAttr]
    exact ⟨_, Ho ++ G, rfl, hs2, by simp +contextual⟩
end Go.Proofs.YtnenbihkcjgddaaGreatDoor
namespace Go.Proofs.YtnenbihkcjgddaaGreatDoor
open Go Go.Eng
set_option maxHeartbeats 1000000
set_option linter.unusedSimpArgs false
set_option linter.unusedVariables false
set_option maxRecDepth 20000
theorem uid_both2 (x : Str × Str) : (x.1 == x.1 && x.2 == x.2) = true := by simp
theorem samesc_pure (F : Base) (x : Scp) {v1 v2 : Value} (h1 : SlU F v1 x.list) (h2 : SlU F v2 x.list) : PureV Tryz.prog F 20 #[scV x v1, scV x v2] (.bool true) := by
 obtain ⟨a1, c1, rfl, hl1, hm1, k1⟩ := h1
 obtain ⟨a2, c2, rfl, -, hm2, k2⟩ := h2
 refine pureV_of_svc mixed Tryz.func20 low20 (Nat.le_of_ble_eq_true rfl) (fun w0 => ?_)
 have hl : (x.list.map uidC).length ≤ 9223372036854775807 := by omega
 generalize hN : (x.list.map uidC).length = N at *
 unfold scV
 have ub := uid_both2 (x.ut, x.ui)
 dsimp only at ub
 have e1 : (x.ty != x.ty) = false := by simp
 have e2 : (x.kind != x.kind) = false := by simp
 simp only [*, fu20, ↓ZD, ZW, RO, simprocAttr]
 refine NewB.n ?_
 rintro b2 - hF2
 simp only [*, ↓ZD, ZW, RO, simprocAttr]
 refine NewB.n ?_
 rintro b3 ⟨_, _, -⟩ hF3
 simp only [*, bne_self_eq_false, Bool.or_self, eq_self, beq_self_eq_true, ↓ZD, ZW, RO, simprocAttr]
 refine LoopL.inv (α := Nat) (fun i => i ≤ N) (fun i => [(2, some (.pointer (some ⟨b2, 0, none⟩))), (3, some (.pointer (some ⟨b3, 0, none⟩))), (5, some (.int .i64 i))])
  (fun i => [(b3, ScO x (.slice a2 N c2)), (b2, ScO x (.slice a1 N c1))]) (fun i => N - i) 0 (Nat.zero_le _) (by simp only [*, ↓ZD, ZW, RO, simprocAttr]) (by simp only [*, ↓ZD, ZW, RO, simprocAttr]) ?_
 intro i hi
 by_cases hlt : i < N
 ·have hd : decide ((i : Int) < (N : Int)) = true := by simp; omega
  obtain ⟨u, hu⟩ : ∃ u, x.list[i]? = some u := ⟨_, List.getElem?_eq_getElem (by rw [List.length_map] at hN; omega)⟩
  have hg : (x.list.map uidC)[i]? = some (uidC u) := by rw [List.getElem?_map, hu]; rfl
  obtain ⟨ba, oa, rfl, hla⟩ := (k1 i _ hg).ldn
  obtain ⟨bb, ob, rfl, hlb⟩ := (k2 i _ hg).ldn
  have ub2 := uid_both2 u
  simp only [*, ↓ZD, ZW, RO, simprocAttr]
  refine conj.of (by omega) ?_
  simp only [*, Int.toNat_natCast, ↓hla, ↓hlb, ↓ZD, ZW, RO, simprocAttr]
  refine conj.of (by omega) ?_
  simp (disch := first | assumption | exact Ne.symm (by assumption) | omega) only [*, Int.toNat_natCast, ↓hla, ↓hlb, ↓ZD, ZW, RO, simprocAttr]
  refine invK.on (i + 1) (by omega) (by omega) (by simp only [*, ↓ZD, ZW, RO, simprocAttr]; rfl) (by simp only [*, ↓ZD, ZW, RO, simprocAttr])
 ·have hd : decide ((i : Int) < (N : Int)) = false := by simp; omega
  obtain rfl : i = N := by omega
  simp only [*, ↓ZD, ZW, RO, simprocAttr]
theorem samesc0 (F : Base) (x : Scp) : PureV Tryz.prog F 20 #[scV x v0, scV x v0] (.bool true) := samesc_pure F ⟨x.kind, x.ty, x.ut, x.ui, x.slot, []⟩ SlU.nil SlU.nil
theorem pol_at {F : Base} {a : Option Addr} {i : Nat} {x : Pol} {va vc : Value} (h : Cl F a 21 i (polC x v0 va v0 vc)) : ∃ b off, a = some ⟨b, off, none⟩ ∧
  (∀ H, ldV F H 1 false (.pointer (some ⟨b, off + i * 21, none⟩)) = some (True, .string (bs x.id))) ∧ (∀ H, ldV F H 1 false (.pointer (some ⟨b, off + i * 21 + 1, none⟩)) = some (True, .bool x.permit)) ∧ (∀ H, ldV F H 1 false (.pointer (some ⟨b, off + i * 21 + 20, none⟩)) = some (True, vc)) ∧
  (∀ H, ldV F H 6 true (.pointer (some ⟨b, off + i * 21 + 2, none⟩)) = some (True, scV x.p v0)) ∧ (∀ H, ldV F H 6 true (.pointer (some ⟨b, off + i * 21 + 8, none⟩)) = some (True, scV x.a va)) ∧ (∀ H, ldV F H 6 true (.pointer (some ⟨b, off + i * 21 + 14, none⟩)) = some (True, scV x.r v0)) := by
 obtain ⟨b, off, rfl, l1, l2⟩ := h.all
 exact ⟨b, off, rfl, l2 0 (by decide), l2 1 (by decide), l2 20 (by decide), l1 2 6 (by decide), l1 8 6 (by decide), l1 14 6 (by decide)⟩
theorem cond_at {F : Base} {a : Option Addr} {i : Nat} {w : Bool} {cs : List Value} (h : Cl F a 13 i (.bool w :: cs)) : ∃ b off, a = some ⟨b, off, none⟩ ∧
  (∀ H, ldV F H 1 false (.pointer (some ⟨b, off + i * 13, none⟩)) = some (True, .bool w)) ∧ (∀ H, ldV F H 12 true (.pointer (some ⟨b, off + i * 13 + 1, none⟩)) = some (True, .agg cs.toArray)) := by
 have hl := h.len
 obtain ⟨b, off, rfl, l1, l2⟩ := h.all
 refine ⟨b, off, rfl, l2 0 (by decide), fun H => ?_⟩
 rw [l1 1 12 (by decide) H]
 simp only [List.drop_succ_cons, List.drop_zero]
 rw [List.take_of_length_le (Nat.le_of_eq (by simpa using hl))]
set_option maxHeartbeats 4000000 in
theorem sameps_pure (F : Base) (xs : List Pol) {v1 v2 : Value} (h1 : SlP F v1 xs) (h2 : SlP F v2 xs) : PureV Tryz.prog F 9 #[v1, v2] (.bool true) := by
 obtain ⟨gs1, ⟨a1, c1, rfl, hl1, hm1, k1⟩, r1⟩ := h1
 obtain ⟨gs2, ⟨a2, c2, rfl, -, hm2, k2⟩, r2⟩ := h2
 have e1 := r1.len
 have e2 := r2.len
 have hl : xs.length ≤ 9223372036854775807 := by omega
 rw [e1, e2]
 clear e1 e2 hl1
 refine pureV_of_svc (args := [.slice a1 xs.length c1, .slice a2 xs.length c2]) mixed Tryz.func9 low9 (Nat.le_of_ble_eq_true rfl) (fun w0 => ?_)
 simp only [*, fu9, bne_self_eq_false, ↓ZD, ZW, RO, simprocAttr]
 refine LoopL.inv (α := Nat) (fun i => i ≤ xs.length) (fun i => [(0, some (.slice a1 xs.length c1)), (1, some (.slice a2 xs.length c2)), (5, some (.int .i64 i))])
  (fun i => []) (fun i => xs.length - i) 0 (Nat.zero_le _) (by simp only [*, ↓ZD, ZW, RO, simprocAttr]) (by simp only [*, ↓ZD, ZW, RO, simprocAttr]) ?_
 intro i hi
 by_cases hlt : i < xs.length
 ·have hd : decide ((i : Int) < (xs.length : Int)) = true := by simp; omega
  have hx : xs[i]? = some xs[i] := List.getElem?_eq_getElem hlt
  generalize xs[i] = x at *
  obtain ⟨g1, hg1, va1, vc1, rfl, u1, s1⟩ := r1.at hx
  obtain ⟨g2, hg2, va2, vc2, rfl, u2, s2⟩ := r2.at hx
  obtain ⟨gc1, ⟨ac1, cc1, rfl, hcc1, hcm1, kc1⟩, rc1⟩ := s1
  obtain ⟨gc2, ⟨ac2, cc2, rfl, -, hcm2, kc2⟩, rc2⟩ := s2
  have el1 := rc1.len
  have el2 := rc2.len
  obtain ⟨ba, oa, rfl, A1, A2, A3, A4, A5, A6⟩ := pol_at (k1 i _ hg1)
  obtain ⟨bb, ob, rfl, B1, B2, B3, B4, B5, B6⟩ := pol_at (k2 i _ hg2)
  simp only [*, ↓ZD, ZW, RO, simprocAttr]
  refine conj.of (by omega) ?_
  simp only [*, Int.toNat_natCast, ↓ZD, ZW, RO, simprocAttr]
  refine conj.of (by omega) ?_
  simp only [*, Int.toNat_natCast, ↓ZD, ZW, RO, simprocAttr]
  refine CallQ.of _ (samesc0 _ x.p) ?_
  simp only [*, Int.toNat_natCast, ↓ZD, ZW, RO, simprocAttr]
  refine conj.of (by omega) ?_
  simp only [*, Int.toNat_natCast, ↓ZD, ZW, RO, simprocAttr]
  refine conj.of (by omega) ?_
  simp only [*, Int.toNat_natCast, ↓ZD, ZW, RO, simprocAttr]
  refine CallQ.of _ (samesc_pure _ x.a (u1.mono le_up) (u2.mono le_up)) ?_
  simp only [*, Int.toNat_natCast, ↓ZD, ZW, RO, simprocAttr]
  refine conj.of (by omega) ?_
  simp only [*, Int.toNat_natCast, ↓ZD, ZW, RO, simprocAttr]
  refine conj.of (by omega) ?_
  simp only [*, Int.toNat_natCast, ↓ZD, ZW, RO, simprocAttr]
  refine CallQ.of _ (samesc0 _ x.r) ?_
  simp only [*, Int.toNat_natCast, bne_self_eq_false, eq_self, beq_self_eq_true, ↓ZD, ZW, RO, simprocAttr]
  repeat' (refine conj.of (by omega) ?_; simp only [*, Int.toNat_natCast, bne_self_eq_false, eq_self, beq_self_eq_true, Bool.or_self, ↓ZD, ZW, RO, simprocAttr])
  have hcl : x.conds.length ≤ 9223372036854775807 := by omega
  refine LoopL.inv (α := Nat) (fun j => j ≤ x.conds.length) (fun j => [(0, some (.slice (some ⟨ba, oa, none⟩) xs.length c1)), (1, some (.slice (some ⟨bb, ob, none⟩) xs.length c2)), (5, some (.int .i64 i)), (9, some (.int .i64 j))])
   (fun j => []) (fun j => x.conds.length - j) 0 (Nat.zero_le _) (by simp only [*, ↓ZD, ZW, RO, simprocAttr]) (by simp only [*, ↓ZD, ZW, RO, simprocAttr]) ?_
  intro j hj
  by_cases hlj : j < x.conds.length
  ·have hdj : decide ((j : Int) < (x.conds.length : Int)) = true := by simp; omega
   have hy : x.conds[j]? = some x.conds[j] := List.getElem?_eq_getElem hlj
   generalize x.conds[j] = y at *
   obtain ⟨y1, hy1, cs1, rfl, ry1⟩ := rc1.at hy
   obtain ⟨y2, hy2, cs2, rfl, ry2⟩ := rc2.at hy
   obtain ⟨bc, oc, rfl, C1, C2⟩ := cond_at (kc1 j _ hy1)
   obtain ⟨bd, od, rfl, D1, D2⟩ := cond_at (kc2 j _ hy2)
   simp only [*, ↓ZD, ZW, RO, simprocAttr]
   refine conj.of (by omega) ?_
   simp only [*, Int.toNat_natCast, ↓ZD, ZW, RO, simprocAttr]
   repeat' (refine conj.of (by omega) ?_; simp only [*, Int.toNat_natCast, bne_self_eq_false, eq_self, beq_self_eq_true, Bool.or_self, ↓ZD, ZW, RO, simprocAttr])
   refine CallQ.of _ (same_pure _ (ry1.mono le_up) (ry2.mono le_up)) ?_
   simp only [*, Int.toNat_natCast, bne_self_eq_false, eq_self, beq_self_eq_true, Bool.or_self, ↓ZD, ZW, RO, simprocAttr]
   repeat' (refine conj.of (by omega) ?_; simp only [*, Int.toNat_natCast, bne_self_eq_false, eq_self, beq_self_eq_true, Bool.or_self, ↓ZD, ZW, RO, simprocAttr])
   simp (disch := first | assumption | exact Ne.symm (by assumption) | omega) only [*, ↓ZD, ZW, RO, simprocAttr]
   refine invK.on (j + 1) (by omega) (by omega) (by simp only [*, ↓ZD, ZW, RO, simprocAttr]; rfl) (by simp only [*, ↓ZD, ZW, RO, simprocAttr])
  ·have hdj : decide ((j : Int) < (x.conds.length : Int)) = false := by simp; omega
   obtain rfl : j = x.conds.length := by omega
   simp only [*, ↓ZD, ZW, RO, simprocAttr]
   refine conj.of (by omega) ?_
   simp only [*, Int.toNat_natCast, ↓ZD, ZW, RO, simprocAttr]
   simp (disch := first | assumption | exact Ne.symm (by assumption) | omega) only [*, ↓ZD, ZW, RO, simprocAttr]
   refine invK.on (i + 1) (by omega) (by omega) (by simp only [*, ↓ZD, ZW, RO, simprocAttr]; rfl) (by simp only [*, ↓ZD, ZW, RO, simprocAttr])
 ·have hd : decide ((i : Int) < (xs.length : Int)) = false := by simp; omega
  obtain rfl : i = xs.length := by omega
  simp only [*, ↓ZD, ZW, RO, simprocAttr]
end Go.Proofs.YtnenbihkcjgddaaGreatDoor
