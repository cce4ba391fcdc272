/- Joined. -/
import Derived.Test.YtnenbihkcjgddaaGreatDoorJc
set_option linter.unusedSectionVars false
namespace Go.Proofs.YtnenbihkcjgddaaGreatDoor
open Go Go.Eng
set_option maxHeartbeats 1000000
set_option linter.unusedSimpArgs false
set_option linter.unusedVariables false
set_option maxRecDepth 20000
theorem one1_call : callable Tryz.prog 144 = true := by kernel_rfl
theorem one2_call : callable Tryz.prog 145 = true := by kernel_rfl
theorem take_two {ws : Ws} {p s : St} (h : Agr p s) {k : Int} (hk : k = if wk ws p = 3 then 3 else 1) : (takeS ws p k).1 = (takeS ws s (if wk ws s = 3 then 3 else 1)).1 ∧ Agr (takeS ws p k).2 (takeS ws s (if wk ws s = 3 then 3 else 1)).2 := by
 by_cases he : s.e = 0
 ·obtain rfl := h.ok he
  rw [hk]; exact ⟨rfl, .inl rfl⟩
 ·rw [takeS_err he, takeS_err (by rw [h.e]; exact he)]; exact ⟨rfl, h⟩
theorem one1 (F : Base) {ws : Ws} {l : Value} (hW : HasW F ws l) {b bo b1 T1 : Nat} {fz : Nat × Nat} (hbo : b ≠ bo) (hFb : F b = none) (hFo : F bo = none) (h1 : F b1 = some (.cells #[.pointer (some ⟨b, 0, none⟩)] T1 fz)) (n : Nat) (hx : Prs F l 86 (G ws n .expr)) :
  OneC F ws l b bo 19 (.func (.func 144) #[] #[.pointer (some ⟨bo, 0, none⟩), .pointer (some ⟨b1, 0, none⟩)]) n := by
 refine ⟨_, _, rfl, one1_call, fun y x s2 hy hcl hns hR => ?_⟩
 obtain ⟨p, s, ks, ns, css, vk, vn, Hk, Hn, G0⟩ := y
 obtain ⟨hA, hg, hk, h12, hn, hnl, hr, ok, on, og, kn, kg, ng, hw, hle⟩ := hy
 dsimp only at hA hg hk h12 hn hnl hr ok on og kn kg ng hw hle hcl hns hR ⊢
 rw [show headS ws 19 ns s = (ns, s) from if_neg (by decide)] at hR ⊢
 simp only at hR ⊢
 have hg2 := hg.go hR
 have h21 : s2.e = 0 → s.e = 0 := fun he => (G_goes ws n _ _ _ hR he).1
 refine Does.shr (K := fun r H' => r = .tuple #[] ∧ ∃ y', ItOk F b bo y' ∧ y'.s = s2 ∧ y'.ns = ns ∧ (s2.e = 0 → y'.ks = ks ++ [x]) ∧ y'.css.length = css.length + 1 ∧ ∀ e ∈ itH l b bo 19 y', e ∈ H') ?_ fun r H' ⟨h1, y', a1, a2, a3, a4, a5, a6⟩ => ⟨_, a6, h1, y', a1, a2, a3, a4, a5, rfl⟩
 refine does_of_svc (args := [.pointer (some ⟨bo, 0, none⟩), .pointer (some ⟨b1, 0, none⟩)]) mixed Tryz.func144 low144 (Nat.le_of_ble_eq_true rfl) fun w0 hw0 => ?_
 unfold itH
 dsimp only
 obtain ⟨base, capk, hvk, hck⟩ := hk.len_le
 subst hvk
 have fl := flat_len12 h12
 have ok1 : Nb b Hk := .of fun e he => (ok e he).1
 have ok2 : Nb bo Hk := .of fun e he => (ok e he).2
 have on1 : Nb b Hn := .of fun e he => (on e he).1
 have on2 : Nb bo Hn := .of fun e he => (on e he).2
 have og1 : Nb b G0 := .of fun e he => (og e he).1
 have og2 : Nb bo G0 := .of fun e he => (og e he).2
 have kn1 : Dj Hn Hk := Dj.iff.2 fun e he e' he' => kn e' he' e he
 have kn2 := kn1.symm
 have kg1 : Dj Hk G0 := Dj.iff.2 fun e he e' he' => (kg e he e' he').symm
 have ng1 : Dj Hn G0 := Dj.iff.2 fun e he e' he' => (ng e he e' he').symm
 have gn1 := ng1.symm
 have nk := hk.noF
 have hwk := OwnS.sub hk
 have nn := hn.noF
 have hbo' := hbo.symm
 clear ok on og kn kg ng hns
 delta fu144
 simp only [*, ↓ZD, ZW, RO, simprocAttr]
 refine TreeL.open ?_
 simp only [*, ↓ZD, ZW, RO, simprocAttr]
 refine ⟨⟨?c1, ?n1⟩, ?c2, ?n2⟩
 case' c1 | c2 =>
  refine CallE.par hx hA hg hR rfl (by simp only [*, List.append_nil, ↓ZD, ZW, RO, simprocAttr]) ?_
  rintro p1 cs1 G1 hA1 hr1 ⟨c12, nb1, hd1, hx1, hw1⟩
  have cok := c12.2.1
  simp only [Dj_cons, Dj_app, Dj_nil] at hd1
  simp only [*, List.append_assoc, ↓ZD, ZW, RO, simprocAttr]
  refine NewB.n ?_
  intro bz hz hFz
  simp only [Nb_cons, Nb_app, Nb_nil] at hz
  simp only [*, List.append_assoc, ↓ZD, ZW, RO, simprocAttr]
 case' n1 | n2 =>
  refine NewB.n ?_
  intro bz hz hFz
  simp only [Nb_cons, Nb_app, Nb_nil] at hz
  simp only [*, List.append_assoc, ↓ZD, ZW, RO, simprocAttr]
 case' n2 => refine ⟨?_, ?_⟩
 case' n1 | n2.refine_1 | n2.refine_2 =>
  refine CallE.par hx hA hg hR rfl (by simp only [*, List.append_nil, ↓ZD, ZW, RO, simprocAttr]) ?_
  rintro p1 cs1 G1 hA1 hr1 ⟨c12, nb1, hd1, hx1, hw1⟩
  have cok := c12.2.1
  simp only [Dj_cons, Dj_app, Dj_nil] at hd1
  simp only [*, List.append_assoc, ↓ZD, ZW, RO, simprocAttr]
 all_goals
  have d1 : Dj G1 Hk := Dj.symm (by simp only [*, ↓ZD, ZW, RO, simprocAttr])
  refine EfL.more (m := 1) (nw := zx) hk (by simp only [*, ↓ZD, ZW, RO, simprocAttr]) ?_ rfl (by decide) (by simp) (by omega) ?_
  ·rw [rowsOf_sl, cellsAt_O, rdObj_own hFz]; simp only [lk, *]; rfl
  intro b2 cap sp hs hcap hcm hF2 h2
  simp only [Nb_cons, Nb_app, Nb_nil] at h2
  have e0 : (css.flatten ++ zx ++ sp).length = css.length * 12 + 12 + sp.length := by simp only [List.length_append, fl, List.length_cons, List.length_nil]
  have e1 : (css.flatten ++ zx ++ sp).take (css.length * 12) = css.flatten := by rw [List.append_assoc]; exact List.take_left' fl
  have e2 : (css.flatten ++ zx ++ sp).drop (css.length * 12 + 12) = sp := by rw [← List.drop_drop, List.append_assoc, List.drop_left' fl]; rfl
  have hi : ((css.length : Nat) : Int).toNat = css.length := Int.toNat_natCast _
  simp only [*, ↓ZD, ZW, RO, simprocAttr]
  refine conj.of (by omega) ?_
  simp only [*, ↓ZD, ZW, RO, simprocAttr]
  obtain ⟨h2a, h2b, h2c, h2d⟩ : Nb b2 Hn ∧ Nb b2 G1 ∧ Nb bo G1 ∧ Dj Hn G1 := by simp only [h2, hd1, and_self]
  try refine (fun h => And.intro h h) ?_
  refine ⟨_, ItOk.add hA1 hg2 h12 c12.1 hn hnl (fun he => ⟨⟨(hr (h21 he)).1, fun i c t hc ht => ((hr (h21 he)).2 i c t hc ht).mono hx1⟩, hr1 he⟩) hF2 hs hcap hcm (by simp only [h2, ne_eq, not_false_eq_true]) (by simp only [h2, ne_eq, not_false_eq_true]) (fun e he => ⟨on1.all e he, on2.all e he⟩) nb1.all h2c.all h2a.all h2b.all (fun e he e' he' => (Dj.iff.1 h2d e he e' he').symm) hw1 (by first | omega | (simp only [List.length_append, List.length_cons, List.length_nil]; omega)), rfl, rfl, fun _ => rfl, by simp, ?_⟩
  intro e he
  simp only [List.mem_cons, List.mem_append, List.not_mem_nil, or_false] at he ⊢
  rcases he with rfl | rfl | rfl | h | h <;> simp [*]
set_option maxHeartbeats 2000000 in
theorem one2 (F : Base) {ws : Ws} (hws : WsOk ws) {l : Value} (hW : HasW F ws l) {b bo b1 T1 : Nat} {fz : Nat × Nat} (hbo : b ≠ bo) (hFb : F b = none) (hFo : F bo = none) (h1 : F b1 = some (.cells #[.pointer (some ⟨b, 0, none⟩)] T1 fz)) (n : Nat) (hx : Prs F l 86 (G ws n .expr)) :
  OneC F ws l b bo 20 (.func (.func 145) #[] #[.pointer (some ⟨b1, 0, none⟩), .pointer (some ⟨bo, 0, none⟩)]) n := by
 refine ⟨_, _, rfl, one2_call, fun y x s2 hy hcl hns hR => ?_⟩
 obtain ⟨p, s, ks, ns, css, vk, vn, Hk, Hn, G0⟩ := y
 obtain ⟨hA, hg, hk, h12, hn, hnl, hr, ok, on, og, kn, kg, ng, hw, hle⟩ := hy
 dsimp only at hA hg hk h12 hn hnl hr ok on og kn kg ng hw hle hcl hns hR ⊢
 rw [show headS ws 20 ns s = (ns ++ [(takeS ws s (if wk ws s = 3 then 3 else 1)).1], mustS ws (takeS ws s (if wk ws s = 3 then 3 else 1)).2 [58]) from if_pos rfl] at hR ⊢
 simp only at hR ⊢
 have hgm : Good (mustS ws (takeS ws s (if wk ws s = 3 then 3 else 1)).2 [58]) := hg.take.must
 have hg2 := hgm.go hR
 have h21 : s2.e = 0 → s.e = 0 := fun he => take_e (must_e (G_goes ws n _ _ _ hR he).1)
 refine Does.shr (K := fun r H' => r = .tuple #[] ∧ ∃ y', ItOk F b bo y' ∧ y'.s = s2 ∧ y'.ns = ns ++ [(takeS ws s (if wk ws s = 3 then 3 else 1)).1] ∧ (s2.e = 0 → y'.ks = ks ++ [x]) ∧ y'.css.length = css.length + 1 ∧ ∀ e ∈ itH l b bo 20 y', e ∈ H') ?_ fun r H' ⟨h1, y', a1, a2, a3, a4, a5, a6⟩ => ⟨_, a6, h1, y', a1, a2, a3, a4, a5, rfl⟩
 refine does_of_svc (args := [.pointer (some ⟨b1, 0, none⟩), .pointer (some ⟨bo, 0, none⟩)]) mixed Tryz.func145 low145 (Nat.le_of_ble_eq_true rfl) fun w0 hw0 => ?_
 unfold itH
 dsimp only
 obtain ⟨base, capk, hvk, hck⟩ := hk.len_le
 subst hvk
 have fl := flat_len12 h12
 have ok1 : Nb b Hk := .of fun e he => (ok e he).1
 have ok2 : Nb bo Hk := .of fun e he => (ok e he).2
 have on1 : Nb b Hn := .of fun e he => (on e he).1
 have on2 : Nb bo Hn := .of fun e he => (on e he).2
 have og1 : Nb b G0 := .of fun e he => (og e he).1
 have og2 : Nb bo G0 := .of fun e he => (og e he).2
 have kn1 : Dj Hn Hk := Dj.iff.2 fun e he e' he' => kn e' he' e he
 have kn2 := kn1.symm
 have kg1 : Dj Hk G0 := Dj.iff.2 fun e he e' he' => (kg e he e' he').symm
 have ng1 : Dj Hn G0 := Dj.iff.2 fun e he e' he' => (ng e he e' he').symm
 have gn1 := ng1.symm
 have nk := hk.noF
 have hwk := OwnS.sub hk
 have nn := hn.noF
 have hbo' := hbo.symm
 clear ok on og kn kg ng hns
 obtain ⟨basn, capn, hvn, hcn⟩ := hn.len_le
 subst hvn
 simp (disch := first | assumption | exact Ne.symm (by assumption) | omega) only [fu145, hFb, hFo, h1, ↓ZD, ZW, simprocAttr]
 refine CallE.pureH (word_pure (b := b) (p := p) _ (hW.mono le_up) (by simp [rdObj, hFb, lk])) ?_
 simp (disch := first | assumption | exact Ne.symm (by assumption) | omega) only [hFb, hFo, h1, wf0, wsz, ↓ZD, ZW, simprocAttr]
 have hkd : ∀ k : Int, k = (if wk ws p = 3 then 3 else 1) → (takeS ws p k).1 = (takeS ws s (if wk ws s = 3 then 3 else 1)).1 ∧ Agr (takeS ws p k).2 (takeS ws s (if wk ws s = 3 then 3 else 1)).2 := fun k h => take_two hA h
 have hTl : (takeS ws s (if wk ws s = 3 then 3 else 1)).1.length ≤ 65536 := take_name hws
 generalize (takeS ws s (if wk ws s = 3 then 3 else 1)) = TS at *
 refine ⟨fun hq => ?_, fun hq => ?_⟩
 ·have hk3 : (3 : Int) = (if wk ws p = 3 then 3 else 1) := by rw [if_pos (show wk ws p = 3 from beq_iff_eq.1 hq)]
  obtain ⟨hT1, hT2⟩ := hkd _ hk3
  clear hk3 hkd
  refine TreeL.cut (α := Hp × Value) (fun y => OwnS F 1 9 ((ns ++ [TS.1]).map fun s => Value.string (bs s)) (ns ++ [TS.1]).length y.2 y.1 ∧ (Nb b y.1 ∧ Nb bo y.1) ∧ (Dj Hk y.1 ∧ Dj y.1 Hk) ∧ Dj y.1 G0)
   (fun y => [(0, some (.pointer (some ⟨b1, 0, none⟩))), (1, some (.pointer (some ⟨bo, 0, none⟩)))]) (fun y => (b, RdO l (takeS ws p 3).2) :: (bo, outO 20 (.slice base css.length capk) y.2) :: (Hk ++ (y.1 ++ G0))) ?_ ?_
  ·simp only [*, ↓ZD, ZW, RO, simprocAttr]
   refine ⟨?_, ?_⟩
   iterate 2
    ·refine CallE.rdq (fun F' hF hb => take_rd F' (hW.mono hF) hb p 3 (by decide)) rfl (by simp only [*, List.append_nil, ↓ZD, ZW, RO, simprocAttr]) ?_
     rw [hT1]
     simp only [*, List.append_assoc, List.append_nil, ↓ZD, ZW, RO, simprocAttr]
     refine NewB.n ?_
     intro bz hz hFz
     simp only [Nb_cons, Nb_app, Nb_nil] at hz
     simp only [*, List.append_assoc, ↓ZD, ZW, RO, simprocAttr]
     refine EfL.more (m := 1) (nw := [Value.string (bs TS.1)]) hn (by simp only [*, ↓ZD, ZW, RO, simprocAttr]) ?_ rfl (by simp [oneCell]) (by simp) (by omega) ?_
     ·rw [rowsOf_sl, cellsAt_O, rdObj_own hFz]; simp only [lk, *]; rfl
     intro bn cap sp hs hcap hcm hFn h2
     simp only [Nb_cons, Nb_app, Nb_nil] at h2
     simp only [*, List.append_assoc, ↓ZD, ZW, RO, simprocAttr]
     obtain ⟨h2k, h2g⟩ : Nb bn Hk ∧ Nb bn G0 := by simp only [h2, and_self]
     refine CutK.on ([(bn, .cells ((ns.map fun s => Value.string (bs s)) ++ [Value.string (bs TS.1)] ++ sp).toArray 9 (0, 0))], .slice (some ⟨bn, 0, none⟩) (ns.length + 1) cap) ⟨OwnS.mk sp hFn (by simp) (by simp) (by simp) (by simpa using hs) (by simpa using hcap) hcm, by simp only [*, ↓ZD, ZW, RO, simprocAttr], ⟨Dj.symm ⟨h2k, trivial⟩, ⟨h2k, trivial⟩⟩, ⟨h2g, trivial⟩⟩ (by simp only [*, ↓ZD, ZW, RO, simprocAttr]) ?_
     simp only [*, List.append_assoc, ↓ZD, ZW, RO, simprocAttr]
  ·rintro ⟨Hn, vn2⟩ ⟨hn2, ⟨on1', on2'⟩, ⟨kn2', kn1'⟩, ng1'⟩
   dsimp only at hn2 on1' on2' kn1' kn2' ng1' ⊢
   clear hn on1 on2 kn1 kn2 ng1 gn1 nn
   have gn1 := ng1'.symm
   have nn := hn2.noF
   have hn := hn2
   have on1 := on1'
   have on2 := on2'
   simp only [*, ↓ZD, ZW, RO, simprocAttr]
   refine CallE.rdq (must_q hW (takeS ws p 3).2 [58]) rfl (by simp only [*, List.append_nil, ↓ZD, ZW, RO, simprocAttr]) ?_
   have hA := hT2.must (t := [58]) (ws := ws)
   have hnl : ∀ s ∈ ns ++ [TS.1], s.length ≤ 65536 := fun s hs => by
    rcases List.mem_append.1 hs with h | h
    ·exact hnl s h
    ·rw [List.mem_singleton.1 h]; exact hTl
   have hg := hgm
   simp only [*, List.append_assoc, List.append_nil, ↓ZD, ZW, RO, simprocAttr]
   refine TreeL.open ?_
   simp only [*, ↓ZD, ZW, RO, simprocAttr]
   refine ⟨⟨?c1, ?n1⟩, ?c2, ?n2⟩
   case' c1 | c2 =>
    refine CallE.par hx hA hg hR rfl (by simp only [*, List.append_nil, ↓ZD, ZW, RO, simprocAttr]) ?_
    rintro p1 cs1 G1 hA1 hr1 ⟨c12, nb1, hd1, hx1, hw1⟩
    have cok := c12.2.1
    simp only [Dj_cons, Dj_app, Dj_nil] at hd1
    simp only [*, List.append_assoc, ↓ZD, ZW, RO, simprocAttr]
    refine NewB.n ?_
    intro bz hz hFz
    simp only [Nb_cons, Nb_app, Nb_nil] at hz
    simp only [*, List.append_assoc, ↓ZD, ZW, RO, simprocAttr]
   case' n1 | n2 =>
    refine NewB.n ?_
    intro bz hz hFz
    simp only [Nb_cons, Nb_app, Nb_nil] at hz
    simp only [*, List.append_assoc, ↓ZD, ZW, RO, simprocAttr]
   case' n2 => refine ⟨?_, ?_⟩
   case' n1 | n2.refine_1 | n2.refine_2 =>
    refine CallE.par hx hA hg hR rfl (by simp only [*, List.append_nil, ↓ZD, ZW, RO, simprocAttr]) ?_
    rintro p1 cs1 G1 hA1 hr1 ⟨c12, nb1, hd1, hx1, hw1⟩
    have cok := c12.2.1
    simp only [Dj_cons, Dj_app, Dj_nil] at hd1
    simp only [*, List.append_assoc, ↓ZD, ZW, RO, simprocAttr]
   all_goals
    have d1 : Dj G1 Hk := Dj.symm (by simp only [*, ↓ZD, ZW, RO, simprocAttr])
    refine EfL.more (m := 1) (nw := zx) hk (by simp only [*, ↓ZD, ZW, RO, simprocAttr]) ?_ rfl (by decide) (by simp) (by omega) ?_
    ·rw [rowsOf_sl, cellsAt_O, rdObj_own hFz]; simp only [lk, *]; rfl
    intro b2 cap sp hs hcap hcm hF2 h2
    simp only [Nb_cons, Nb_app, Nb_nil] at h2
    have e0 : (css.flatten ++ zx ++ sp).length = css.length * 12 + 12 + sp.length := by simp only [List.length_append, fl, List.length_cons, List.length_nil]
    have e1 : (css.flatten ++ zx ++ sp).take (css.length * 12) = css.flatten := by rw [List.append_assoc]; exact List.take_left' fl
    have e2 : (css.flatten ++ zx ++ sp).drop (css.length * 12 + 12) = sp := by rw [← List.drop_drop, List.append_assoc, List.drop_left' fl]; rfl
    have hi : ((css.length : Nat) : Int).toNat = css.length := Int.toNat_natCast _
    simp only [*, ↓ZD, ZW, RO, simprocAttr]
    refine conj.of (by omega) ?_
    simp only [*, ↓ZD, ZW, RO, simprocAttr]
    obtain ⟨h2a, h2b, h2c, h2d⟩ : Nb b2 Hn ∧ Nb b2 G1 ∧ Nb bo G1 ∧ Dj Hn G1 := by simp only [h2, hd1, and_self]
    try refine (fun h => And.intro h h) ?_
    refine ⟨_, ItOk.add hA1 hg2 h12 c12.1 hn hnl (fun he => ⟨⟨(hr (h21 he)).1, fun i c t hc ht => ((hr (h21 he)).2 i c t hc ht).mono hx1⟩, hr1 he⟩) hF2 hs hcap hcm (by simp only [h2, ne_eq, not_false_eq_true]) (by simp only [h2, ne_eq, not_false_eq_true]) (fun e he => ⟨on1.all e he, on2.all e he⟩) nb1.all h2c.all h2a.all h2b.all (fun e he e' he' => (Dj.iff.1 h2d e he e' he').symm) hw1 (by first | omega | (simp only [List.length_append, List.length_cons, List.length_nil]; omega)), rfl, rfl, fun _ => rfl, by simp, ?_⟩
    intro e he
    simp only [List.mem_cons, List.mem_append, List.not_mem_nil, or_false] at he ⊢
    rcases he with rfl | rfl | rfl | h | h <;> simp [*]
 ·have hk3 : (1 : Int) = (if wk ws p = 3 then 3 else 1) := by rw [if_neg (show ¬ wk ws p = 3 from beq_eq_false_iff_ne.1 hq)]
  obtain ⟨hT1, hT2⟩ := hkd _ hk3
  clear hk3 hkd
  refine TreeL.cut (α := Hp × Value) (fun y => OwnS F 1 9 ((ns ++ [TS.1]).map fun s => Value.string (bs s)) (ns ++ [TS.1]).length y.2 y.1 ∧ (Nb b y.1 ∧ Nb bo y.1) ∧ (Dj Hk y.1 ∧ Dj y.1 Hk) ∧ Dj y.1 G0)
   (fun y => [(0, some (.pointer (some ⟨b1, 0, none⟩))), (1, some (.pointer (some ⟨bo, 0, none⟩)))]) (fun y => (b, RdO l (takeS ws p 1).2) :: (bo, outO 20 (.slice base css.length capk) y.2) :: (Hk ++ (y.1 ++ G0))) ?_ ?_
  ·simp only [*, ↓ZD, ZW, RO, simprocAttr]
   refine ⟨?_, ?_⟩
   iterate 2
    ·refine CallE.rdq (fun F' hF hb => take_rd F' (hW.mono hF) hb p 1 (by decide)) rfl (by simp only [*, List.append_nil, ↓ZD, ZW, RO, simprocAttr]) ?_
     rw [hT1]
     simp only [*, List.append_assoc, List.append_nil, ↓ZD, ZW, RO, simprocAttr]
     refine NewB.n ?_
     intro bz hz hFz
     simp only [Nb_cons, Nb_app, Nb_nil] at hz
     simp only [*, List.append_assoc, ↓ZD, ZW, RO, simprocAttr]
     refine EfL.more (m := 1) (nw := [Value.string (bs TS.1)]) hn (by simp only [*, ↓ZD, ZW, RO, simprocAttr]) ?_ rfl (by simp [oneCell]) (by simp) (by omega) ?_
     ·rw [rowsOf_sl, cellsAt_O, rdObj_own hFz]; simp only [lk, *]; rfl
     intro bn cap sp hs hcap hcm hFn h2
     simp only [Nb_cons, Nb_app, Nb_nil] at h2
     simp only [*, List.append_assoc, ↓ZD, ZW, RO, simprocAttr]
     obtain ⟨h2k, h2g⟩ : Nb bn Hk ∧ Nb bn G0 := by simp only [h2, and_self]
     refine CutK.on ([(bn, .cells ((ns.map fun s => Value.string (bs s)) ++ [Value.string (bs TS.1)] ++ sp).toArray 9 (0, 0))], .slice (some ⟨bn, 0, none⟩) (ns.length + 1) cap) ⟨OwnS.mk sp hFn (by simp) (by simp) (by simp) (by simpa using hs) (by simpa using hcap) hcm, by simp only [*, ↓ZD, ZW, RO, simprocAttr], ⟨Dj.symm ⟨h2k, trivial⟩, ⟨h2k, trivial⟩⟩, ⟨h2g, trivial⟩⟩ (by simp only [*, ↓ZD, ZW, RO, simprocAttr]) ?_
     simp only [*, List.append_assoc, ↓ZD, ZW, RO, simprocAttr]
  ·rintro ⟨Hn, vn2⟩ ⟨hn2, ⟨on1', on2'⟩, ⟨kn2', kn1'⟩, ng1'⟩
   dsimp only at hn2 on1' on2' kn1' kn2' ng1' ⊢
   clear hn on1 on2 kn1 kn2 ng1 gn1 nn
   have gn1 := ng1'.symm
   have nn := hn2.noF
   have hn := hn2
   have on1 := on1'
   have on2 := on2'
   simp only [*, ↓ZD, ZW, RO, simprocAttr]
   refine CallE.rdq (must_q hW (takeS ws p 1).2 [58]) rfl (by simp only [*, List.append_nil, ↓ZD, ZW, RO, simprocAttr]) ?_
   have hA := hT2.must (t := [58]) (ws := ws)
   have hnl : ∀ s ∈ ns ++ [TS.1], s.length ≤ 65536 := fun s hs => by
    rcases List.mem_append.1 hs with h | h
    ·exact hnl s h
    ·rw [List.mem_singleton.1 h]; exact hTl
   have hg := hgm
   simp only [*, List.append_assoc, List.append_nil, ↓ZD, ZW, RO, simprocAttr]
   refine TreeL.open ?_
   simp only [*, ↓ZD, ZW, RO, simprocAttr]
   refine ⟨⟨?c1a, ?n1a⟩, ?c2a, ?n2a⟩
   case' c1a | c2a =>
    refine CallE.par hx hA hg hR rfl (by simp only [*, List.append_nil, ↓ZD, ZW, RO, simprocAttr]) ?_
    rintro p1 cs1 G1 hA1 hr1 ⟨c12, nb1, hd1, hx1, hw1⟩
    have cok := c12.2.1
    simp only [Dj_cons, Dj_app, Dj_nil] at hd1
    simp only [*, List.append_assoc, ↓ZD, ZW, RO, simprocAttr]
    refine NewB.n ?_
    intro bz hz hFz
    simp only [Nb_cons, Nb_app, Nb_nil] at hz
    simp only [*, List.append_assoc, ↓ZD, ZW, RO, simprocAttr]
   case' n1a | n2a =>
    refine NewB.n ?_
    intro bz hz hFz
    simp only [Nb_cons, Nb_app, Nb_nil] at hz
    simp only [*, List.append_assoc, ↓ZD, ZW, RO, simprocAttr]
   case' n2a => refine ⟨?_, ?_⟩
   case' n1a | n2a.refine_1 | n2a.refine_2 =>
    refine CallE.par hx hA hg hR rfl (by simp only [*, List.append_nil, ↓ZD, ZW, RO, simprocAttr]) ?_
    rintro p1 cs1 G1 hA1 hr1 ⟨c12, nb1, hd1, hx1, hw1⟩
    have cok := c12.2.1
    simp only [Dj_cons, Dj_app, Dj_nil] at hd1
    simp only [*, List.append_assoc, ↓ZD, ZW, RO, simprocAttr]
   all_goals
    have d1 : Dj G1 Hk := Dj.symm (by simp only [*, ↓ZD, ZW, RO, simprocAttr])
    refine EfL.more (m := 1) (nw := zx) hk (by simp only [*, ↓ZD, ZW, RO, simprocAttr]) ?_ rfl (by decide) (by simp) (by omega) ?_
    ·rw [rowsOf_sl, cellsAt_O, rdObj_own hFz]; simp only [lk, *]; rfl
    intro b2 cap sp hs hcap hcm hF2 h2
    simp only [Nb_cons, Nb_app, Nb_nil] at h2
    have e0 : (css.flatten ++ zx ++ sp).length = css.length * 12 + 12 + sp.length := by simp only [List.length_append, fl, List.length_cons, List.length_nil]
    have e1 : (css.flatten ++ zx ++ sp).take (css.length * 12) = css.flatten := by rw [List.append_assoc]; exact List.take_left' fl
    have e2 : (css.flatten ++ zx ++ sp).drop (css.length * 12 + 12) = sp := by rw [← List.drop_drop, List.append_assoc, List.drop_left' fl]; rfl
    have hi : ((css.length : Nat) : Int).toNat = css.length := Int.toNat_natCast _
    simp only [*, ↓ZD, ZW, RO, simprocAttr]
    refine conj.of (by omega) ?_
    simp only [*, ↓ZD, ZW, RO, simprocAttr]
    obtain ⟨h2a, h2b, h2c, h2d⟩ : Nb b2 Hn ∧ Nb b2 G1 ∧ Nb bo G1 ∧ Dj Hn G1 := by simp only [h2, hd1, and_self]
    try refine (fun h => And.intro h h) ?_
    refine ⟨_, ItOk.add hA1 hg2 h12 c12.1 hn hnl (fun he => ⟨⟨(hr (h21 he)).1, fun i c t hc ht => ((hr (h21 he)).2 i c t hc ht).mono hx1⟩, hr1 he⟩) hF2 hs hcap hcm (by simp only [h2, ne_eq, not_false_eq_true]) (by simp only [h2, ne_eq, not_false_eq_true]) (fun e he => ⟨on1.all e he, on2.all e he⟩) nb1.all h2c.all h2a.all h2b.all (fun e he e' he' => (Dj.iff.1 h2d e he e' he').symm) hw1 (by first | omega | (simp only [List.length_append, List.length_cons, List.length_nil]; omega)), rfl, rfl, fun _ => rfl, by simp, ?_⟩
    intro e he
    simp only [List.mem_cons, List.mem_append, List.not_mem_nil, or_false] at he ⊢
    rcases he with rfl | rfl | rfl | h | h <;> simp [*]
end Go.Proofs.YtnenbihkcjgddaaGreatDoor
namespace Go.Proofs.YtnenbihkcjgddaaGreatDoor
open Go Go.Eng
set_option maxHeartbeats 1000000
set_option linter.unusedSimpArgs false
set_option linter.unusedVariables false
set_option maxRecDepth 20000
theorem stp_call_guard {P : Program} {X : List Nat} {F : Base} {w0 : World} {N f l : Nat} {args : List Eng.X} {d : Option Nat} {U : Fr} {C : Cf} {H : Hp} {next : Fr → Cf → Hp → Prop} {vs : List Value} (hr : rds U C (chain C (some l)) args = some vs)
  (h1 : Wf U C (chain C (some l)) (chain C (some l)) → @CallE P X F w0 f vs.toArray H ⟨fun v H' => put d (chain C (some l)) v U C H' next⟩) (h2 : NW U C (chain C (some l)) → skp d (chain C (some l)) U C (fun U C => next U C H)) :
  stp P X F w0 N ⟨d, .call f args, some l, .e⟩ U C H next := by
 unfold stp
 simp only [hr]
 exact ⟨h1, h2⟩
theorem it_wk {F : Base} {l : Value} {b bo : Nat} {op : Int} {y : ItS} (h : ItOk F b bo y) (hbo : b ≠ bo) : Wk (itH l b bo op y) := by
 have w1 : Wk (y.Hn ++ y.G) := (OwnS.sub h.hn).app h.w fun e he e' he' => (h.ng e he e' he').symm
 have w2 : Wk (y.Hk ++ (y.Hn ++ y.G)) := (OwnS.sub h.hk).app w1 fun e he e' he' => by
  rcases List.mem_append.1 he' with h' | h'
  ·exact (h.kn e he e' h').symm
  ·exact (h.kg e he e' h').symm
 refine Wk.cons ?_ (Wk.cons ?_ w2)
 ·exact all_cons hbo.symm (all_app (fun e he => (h.ok e he).1) (all_app (fun e he => (h.on e he).1) fun e he => (h.og e he).1))
 ·exact all_app (fun e he => (h.ok e he).2) (all_app (fun e he => (h.on e he).2) fun e he => (h.og e he).2)
theorem it_wkx {F : Base} {b bo : Nat} {y : ItS} (h : ItOk F b bo y) : Wk (y.Hk ++ (y.Hn ++ y.G)) :=
 (OwnS.sub h.hk).app ((OwnS.sub h.hn).app h.w fun e he e' he' => (h.ng e he e' he').symm) fun e he e' he' => by
  rcases List.mem_append.1 he' with h' | h'
  ·exact (h.kn e he e' h').symm
  ·exact (h.kg e he e' h').symm
theorem it_off {F : Base} {b bo : Nat} {op : Int} {y : ItS} (h : ItOk F b bo y) (hbo : b ≠ bo) : ∀ e ∈ (bo, outO op y.vk y.vn) :: (y.Hk ++ (y.Hn ++ y.G)), e.1 ≠ b :=
 all_cons hbo.symm (all_app (fun e he => (h.ok e he).1) (all_app (fun e he => (h.on e he).1) fun e he => (h.og e he).1))
theorem ItOk.st {F : Base} {b bo : Nat} {y : ItS} (h : ItOk F b bo y) {p s : St} (hA : Agr p s) (hg : Good s) (he : s.e = 0 → y.s.e = 0) : ItOk F b bo { y with p := p, s := s } :=
 ⟨hA, hg, h.hk, h.h12, h.hn, h.nl, fun h0 => h.r (he h0), h.ok, h.on, h.og, h.kn, h.kg, h.ng, h.w, h.le⟩
structure LsI (F : Base) (ws : Ws) (b bo : Nat) (op : Int) (N : Nat) (xF : Ex') (sF : St) (y : ItS × Nat) : Prop where
 h : ItOk F b bo y.1
 c : y.1.s.e = 0 → (y.1.css.length : Int) ≤ y.1.s.p + 1 ∧ y.1.css.length ≤ 65538
 c2 : y.1.css.length ≤ 65539
 m : y.2 ≤ N
 n : op ≠ 20 → y.1.ns = []
 R : (isS ws y.1.s (endOf op) = true ∧ xF = .mk op lv0 [] y.1.ks y.1.ns ∧ sF = adv y.1.s) ∨ (isS ws y.1.s (endOf op) = false ∧ (y.1.s.e = 0 → G ws y.2 (.its op y.1.ns y.1.ks) (mustS ws y.1.s [44]) = some (xF, sF)) ∧ (y.1.s.e ≠ 0 → xF = nilX ∧ sF = y.1.s))
theorem head_goes {ws : Ws} {n : Nat} {op : Int} {ns : List Str} {s s2 : St} {x : Ex'} (h : G ws n .expr (headS ws op ns s).2 = some (x, s2)) : Fwd 0 s s2 := Fwd.head.trans (G_goes ws n _ _ _ h)
theorem its_one {ws : Ws} {m : Nat} {op : Int} {ns : List Str} {ks : List Ex'} {s s' : St} {x : Ex'} (h : G ws m (.its op ns ks) s = some (x, s')) :
  ∃ m' x1 s1, m' ≤ m ∧ (s.e = 0 → m' < m) ∧ G ws m' .expr (headS ws op ns s).2 = some (x1, s1) ∧ ((isS ws s1 (endOf op) = true ∧ x = .mk op lv0 [] (ks ++ [x1]) (headS ws op ns s).1 ∧ s' = adv s1) ∨ (isS ws s1 (endOf op) = false ∧ (s1.e = 0 → G ws m' (.its op (headS ws op ns s).1 (ks ++ [x1])) (mustS ws s1 [44]) = some (x, s')) ∧ (s1.e ≠ 0 → x = nilX ∧ s' = s1))) := by
 by_cases he : s.e = 0
 ·cases m with
  | zero => exact absurd he (G_zero h).1
  | succ m =>
   rw [G_succ, if_pos he] at h
   obtain ⟨⟨x1, s1⟩, h1, h2⟩ := bind_some h
   refine ⟨m, x1, s1, Nat.le_succ _, fun _ => Nat.lt_succ_self _, h1, ?_⟩
   simp only at h2
   cases hi : isS ws s1 (endOf op) with
   | true =>
    rw [hi, if_pos rfl] at h2
    simp only [Option.some.injEq, Prod.mk.injEq] at h2
    exact .inl ⟨rfl, h2.1.symm, h2.2.symm⟩
   | false =>
    rw [hi, if_neg (by decide)] at h2
    refine .inr ⟨rfl, fun _ => h2, fun h0 => ?_⟩
    rw [mustS_err h0] at h2
    exact G_err h0 _ _ h2
 ·obtain ⟨rfl, rfl⟩ := G_err he _ _ h
  have hh : (headS ws op ns s').2 = s' := by
   unfold headS; split
   ·simp only [takeS_err he, mustS_err he]
   ·rfl
  refine ⟨m, nilX, s', Nat.le_refl _, fun h0 => absurd h0 he, by rw [hh]; exact G_at he, .inr ⟨isS_err he, fun h0 => absurd h0 he, fun _ => ⟨rfl, rfl⟩⟩⟩
theorem next_R {ws : Ws} {m' : Nat} {op : Int} {ks : List Ex'} {ns' : List Str} {x1 xF : Ex'} {s1 sF : St} {y' : ItS} (k2 : y'.s = s1) (k3 : y'.ns = ns') (k4 : s1.e = 0 → y'.ks = ks ++ [x1])
  (hC : (isS ws s1 (endOf op) = true ∧ xF = .mk op lv0 [] (ks ++ [x1]) ns' ∧ sF = adv s1) ∨ (isS ws s1 (endOf op) = false ∧ (s1.e = 0 → G ws m' (.its op ns' (ks ++ [x1])) (mustS ws s1 [44]) = some (xF, sF)) ∧ (s1.e ≠ 0 → xF = nilX ∧ sF = s1))) :
  (isS ws y'.s (endOf op) = true ∧ xF = .mk op lv0 [] y'.ks y'.ns ∧ sF = adv y'.s) ∨ (isS ws y'.s (endOf op) = false ∧ (y'.s.e = 0 → G ws m' (.its op y'.ns y'.ks) (mustS ws y'.s [44]) = some (xF, sF)) ∧ (y'.s.e ≠ 0 → xF = nilX ∧ sF = y'.s)) := by
 subst k2 k3
 rcases hC with ⟨a, b, c⟩ | ⟨a, b, c⟩
 ·exact .inl ⟨a, by rw [k4 (isS_ok a)]; exact b, c⟩
 ·exact .inr ⟨a, fun h => by rw [k4 h]; exact b h, c⟩
theorem CallEF.one {X : List Nat} {F : Base} {w0 : World} {ws : Ws} {l : Value} {b bo : Nat} {op : Int} {fv : Value} {n : Nat} {K : Value → Hp → Prop} (h : OneC F ws l b bo op fv n) {y : ItS} {x : Ex'} {s2 : St} (hy : ItOk F b bo y) (hc : y.css.length ≤ 65540) (hn : op ≠ 20 → y.ns = []) (hR : G ws n .expr (headS ws op y.ns y.s).2 = some (x, s2))
  (hk : ∀ y', ItOk F b bo y' → y'.s = s2 → y'.ns = (headS ws op y.ns y.s).1 → (s2.e = 0 → y'.ks = y.ks ++ [x]) → y'.css.length = y.css.length + 1 → K (.tuple #[]) (itH l b bo op y')) :
  @CallEF Tryz.prog X F w0 fv [] (itH l b bo op y) ⟨K⟩ := by
 obtain ⟨f, ca, rfl, hcl, hf⟩ := h
 refine CallEF.does (itH l b bo op y) [] hcl (by simpa using hf y x s2 hy hc hn hR) (fun _ _ h => by simp [rdObj, h]) (fun e h => h) (fun e h => by cases h) (fun e h => by cases h) ?_
 rintro v H' ⟨rfl, y', k1, k2, k3, k4, k5, rfl⟩ - - -
 exact hk y' k1 k2 k3 k4 k5
theorem list_does (F : Base) {ws : Ws} (hws : WsOk ws) {l : Value} (hW : HasW F ws l) {b bo : Nat} (hbo : b ≠ bo) (hFb : F b = none) (hFo : F bo = none) (op : Int) {fv : Value} (N : Nat) (h1 : ∀ n ≤ N, OneC F ws l b bo op fv n)
  (y : ItS) (hy : ItOk F b bo y) (hks : y.ks = []) (hns : y.ns = []) (hcs : y.css = []) (he : y.s.e = 0) (hpos : 0 ≤ y.s.p) {x : Ex'} {s' : St} (hR : itemsG ws (G ws N) op y.s = some (x, s')) :
  Does Tryz.prog F 143 #[.pointer (some ⟨b, 0, none⟩), .string (bs (endOf op)), fv] (itH l b bo op y) (fun r H' => r = .tuple #[] ∧ ∃ y', ItOk F b bo y' ∧ y'.s = s' ∧ (s'.e = 0 → x = .mk op lv0 [] y'.ks y'.ns) ∧ y'.css.length ≤ 65540 ∧ H' = itH l b bo op y') := by
 refine does_of_svc (args := [.pointer (some ⟨b, 0, none⟩), .string (bs (endOf op)), fv]) mixed Tryz.func143 low143 (Nat.le_of_ble_eq_true rfl) fun w0 hw0 => ?_
 have hpe : y.p = y.s := hy.A.ok he
 simp (disch := first | assumption | exact Ne.symm (by assumption) | omega) only [fu143, ↓ZD, ZW, simprocAttr]
 refine CallE.rd1 ((bo, outO op y.vk y.vn) :: (y.Hk ++ (y.Hn ++ y.G))) (skip_rd _ (hW.mono le_up) (rdObj_none hFb (it_off hy hbo)) y.p (endOf op)) (by simp [itH]) (by intro e he; exact List.mem_cons_of_mem _ he) (it_off hy hbo) ?_
 rw [hpe]
 unfold itemsG at hR
 cases hi : isS ws y.s (endOf op) with
 | true =>
  rw [hi, if_pos rfl] at hR
  simp only [Option.some.injEq, Prod.mk.injEq] at hR
  obtain ⟨rfl, rfl⟩ := hR
  simp (disch := first | assumption | exact Ne.symm (by assumption) | omega) only [hi, ↓ZD, ZW, simprocAttr]
  exact ⟨{ y with p := adv y.s, s := adv y.s }, hy.st Agr.rfl' hy.g.adv (fun _ => he), rfl, fun _ => by rw [hks, hns], by rw [hcs]; decide, rfl⟩
 | false =>
  rw [hi, if_neg (by decide)] at hR
  simp (disch := first | assumption | exact Ne.symm (by assumption) | omega) only [hi, ↓ZD, ZW, simprocAttr]
  obtain ⟨m, x1, s1, hm, hm2, hE, hC⟩ := its_one hR
  have hsame : (b, RdO l y.s) :: (bo, outO op y.vk y.vn) :: (y.Hk ++ (y.Hn ++ y.G)) = itH l b bo op y := by unfold itH; rw [hpe]
  rw [hsame]
  refine CallEF.one (h1 m hm) hy (by rw [hcs]; decide) (fun _ => hns) (by rw [hns]; exact hE) ?_
  intro y1 k1 k2 k3 k4 k5
  have hfw := head_goes hE
  simp (disch := first | assumption | exact Ne.symm (by assumption) | omega) only [↓ZD, ZW, simprocAttr]
  refine LoopL.inv (α := ItS × Nat) (LsI F ws b bo op N x s') (fun z => [(0, some (.pointer (some ⟨b, 0, none⟩))), (1, some (.string (bs (endOf op)))), (2, some fv)]) (fun z => itH l b bo op z.1) (fun z => 2 * z.2 + (if z.1.s.e = 0 then 1 else 0)) (y1, m)
   ⟨k1, fun h0 => ?_, by rw [k5, hcs]; decide, hm, fun h0 => ?_, next_R k2 (by rw [k3, hns]) (fun h0 => by rw [k4 h0, hks]) hC⟩ (by (simp (disch := first | assumption | exact Ne.symm (by assumption) | omega) only [↓ZD, ZW, simprocAttr]; try trivial)) (HLe.of (it_wk k1 hbo)) ?_
  ·rw [k2] at h0 ⊢
   have := (hfw h0).2.1
   rw [k5, hcs]
   simp only [List.length_nil]
   omega
  ·rw [k3, hns]; unfold headS; rw [if_neg h0]
  clear hC hE k1 k2 k3 k4 k5 hm hm2 hfw hR hi hsame hy hks hns hcs he hpos hpe
  rintro ⟨y, m⟩ ⟨hy, hc, hc2, hm, hn, hR⟩
  dsimp only at hy hc hc2 hm hn hR ⊢
  by_cases he : y.s.e = 0
  ·have hpe : y.p = y.s := hy.A.ok he
   have hd : (y.s.e == 0) = true := by simpa using he
   have hcc := hc he
   unfold itH
   rw [hpe]
   simp (disch := first | assumption | exact Ne.symm (by assumption) | omega) only [hFb, hd, ↓ZD, ZW, simprocAttr]
   refine stp_call_guard (vs := [.pointer (some ⟨b, 0, none⟩), .string (bs (endOf op))]) (by simp (disch := first | assumption | exact Ne.symm (by assumption) | omega) only [↓ZD, ZW, simprocAttr]) (fun h => ?_) (fun h => ?_)
   ·refine CallE.rd1 ((bo, outO op y.vk y.vn) :: (y.Hk ++ (y.Hn ++ y.G))) (skip_rd _ (hW.mono le_up) (rdObj_none hFb (it_off hy hbo)) y.s (endOf op)) (by simp) (by intro e he; exact List.mem_cons_of_mem _ he) (it_off hy hbo) ?_
    rcases hR with ⟨hi, rfl, rfl⟩ | ⟨hi, hR, -⟩
    ·simp (disch := first | assumption | exact Ne.symm (by assumption) | omega) only [hi, ↓ZD, ZW, simprocAttr]
     exact ⟨{ y with p := adv y.s, s := adv y.s }, hy.st Agr.rfl' hy.g.adv (fun _ => he), rfl, fun _ => rfl, by show y.css.length ≤ 65540; omega, rfl⟩
    ·simp (disch := first | assumption | exact Ne.symm (by assumption) | omega) only [hi, ↓ZD, ZW, simprocAttr]
     refine CallE.rd1 ((bo, outO op y.vk y.vn) :: (y.Hk ++ (y.Hn ++ y.G))) (must_rd _ (hW.mono le_up) (rdObj_none hFb (it_off hy hbo)) y.s [44]) (by simp) (by intro e he; exact List.mem_cons_of_mem _ he) (it_off hy hbo) ?_
     simp (disch := first | assumption | exact Ne.symm (by assumption) | omega) only [↓ZD, ZW, simprocAttr]
     obtain ⟨m', x1, s1, hm1, hm2, hE, hC⟩ := its_one (hR he)
     have hys := hy.st (Agr.rfl' (s := mustS ws y.s [44])) hy.g.must (fun h0 => he)
     have hcm : (mustS ws y.s [44]).e = 0 → y.css.length ≤ 65537 ∧ (y.css.length : Int) ≤ (mustS ws y.s [44]).p := fun h0 => by
      unfold mustS at h0 ⊢
      split at h0
      ·rename_i h3
       rw [if_pos h3]
       have hr := isS_range h3
       have := hws.1
       exact ⟨by omega, by show (y.css.length : Int) ≤ y.s.p + 1; omega⟩
      ·exact absurd h0 (failS_e (by decide))
     refine CallEF.one (y := { y with p := mustS ws y.s [44], s := mustS ws y.s [44] }) (h1 m' (by omega)) hys (by show y.css.length ≤ 65540; omega) hn hE ?_
     intro y1 k1 k2 k3 k4 k5
     dsimp only at k3 k4 k5
     have hfw := head_goes hE
     simp (disch := first | assumption | exact Ne.symm (by assumption) | omega) only [↓ZD, ZW, simprocAttr]
     refine invK.on (y1, m') ⟨k1, fun h0 => ?_, by rw [k5]; omega, by show m' ≤ N; omega, fun h0 => ?_, next_R k2 k3 k4 hC⟩ ?_ (by (simp (disch := first | assumption | exact Ne.symm (by assumption) | omega) only [↓ZD, ZW, simprocAttr]; try trivial)) (HLe.of (it_wk k1 hbo))
     ·rw [k2] at h0 ⊢
      obtain ⟨a1, a2, a3⟩ := hfw h0
      have := hcm a1
      rw [k5]; omega
     ·rw [k3]; unfold headS; rw [if_neg h0]; exact hn h0
     ·show 2 * m' + (if y1.s.e = 0 then 1 else 0) < 2 * m + (if y.s.e = 0 then 1 else 0)
      rw [if_pos he]
      by_cases h0 : (mustS ws y.s [44]).e = 0
      ·have := hm2 h0; split <;> omega
      ·have : y1.s.e ≠ 0 := by rw [k2]; exact fun h3 => h0 (hfw h3).1
       rw [if_neg this]; omega
   ·have h' : (true : Bool) = false := h
    cases h'
  ·have hd : (y.p.e == 0) = false := by rw [hy.A.e]; simpa using he
   unfold itH
   simp (disch := first | assumption | exact Ne.symm (by assumption) | omega) only [hFb, hd, ↓ZD, ZW, simprocAttr]
   refine stp_call_guard (vs := [.pointer (some ⟨b, 0, none⟩), .string (bs (endOf op))]) (by simp (disch := first | assumption | exact Ne.symm (by assumption) | omega) only [↓ZD, ZW, simprocAttr]) (fun h => ?_) (fun h => ?_)
   ·have h' : (false : Bool) = true := h.1
    cases h'
   ·unfold skp
    simp (disch := first | assumption | exact Ne.symm (by assumption) | omega) only [↓ZD, ZW, simprocAttr]
    rcases hR with ⟨hi, -, -⟩ | ⟨-, -, hR⟩
    ·rw [isS_err he] at hi; cases hi
    ·obtain ⟨rfl, rfl⟩ := hR he
     exact ⟨y, hy, rfl, fun h0 => absurd h0 he, by omega, rfl⟩
end Go.Proofs.YtnenbihkcjgddaaGreatDoor
namespace Go.Proofs.YtnenbihkcjgddaaGreatDoor
open Go Go.Eng
set_option maxHeartbeats 1000000
set_option linter.unusedSimpArgs false
set_option linter.unusedVariables false
set_option maxRecDepth 20000
theorem slot_ne (t : Str) : (!(t == [112, 114, 105, 110, 99, 105, 112, 97, 108]) && !(t == [114, 101, 115, 111, 117, 114, 99, 101])) = !decide (t ∈ slotL) := by
 rw [Bool.eq_iff_iff]; simp [slotL]
theorem it_nil {F : Base} {b bo : Nat} {p : St} (hg : Good p) : ItOk F b bo ⟨p, p, [], [], [], .slice none 0 0, .slice none 0 0, [], [], []⟩ :=
 ⟨Agr.rfl', hg, .nil, fun c h => (by cases h), .nil, fun s h => (by cases h), fun _ => ⟨rfl, fun i c t h => by simp at h⟩, fun e h => (by cases h), fun e h => (by cases h), fun e h => (by cases h), fun e h => (by cases h), fun e h => (by cases h), fun e h => (by cases h), Wk.nil, Nat.le_refl _⟩
set_option maxHeartbeats 2000000 in
theorem primary_prs (F : Base) (hMx : HasMx F) {ws : Ws} (hws : WsOk ws) {l : Value} (hW : HasW F ws l) (N : Nat) (h1 : ∀ n ≤ N, Prs F l 86 (G ws n .expr)) : Prs F l 139 (G ws (N + 1) .prim) := by
 intro F' hFF b p s x s' hFb hA hg hR
 have hW := hW.mono hFF
 have hMx := hMx.mono hFF
 refine Does.fin (does_of_svc (args := [.pointer (some ⟨b, 0, none⟩)]) mixed Tryz.func139 low139 (Nat.le_of_ble_eq_true rfl) fun w0 hw0 => ?_)
 have hlen := hW.len
 simp only [*, fu139, ↓ZD, ZW, RO, simprocAttr]
 refine NewB.n ?_
 rintro b1 ⟨_, _, _⟩ hF1
 simp only [*, ↓ZD, ZW, RO, simprocAttr]
 refine NewB.n ?_
 rintro b2 ⟨_, _, _, _, _⟩ hF2
 simp only [*, ↓ZD, ZW, RO, simprocAttr]
 refine CallE.pureH (word_pure (b := b) (p := p) _ (hW.mono le_up) (by simp [rdObj, lk, *])) ?_
 simp only [*, wdV, ↓ZD, ZW, RO, simprocAttr]
 refine NewB.n ?_
 rintro b3 ⟨_, _, _, _, _, _, _⟩ hF3
 simp only [*, wdV, ↓ZD, ZW, RO, simprocAttr]
 by_cases he0 : s.e = 0
 ·obtain rfl := hA.ok he0
  have hd : (p.e != 0) = false := by simpa using he0
  rw [G_succ, if_pos he0] at hR
  simp only [stepG] at hR
  unfold primG wk wtx wn at hR
  have hw1 : ((wdAt ws p.p).1.1 : Int) ≠ 0 → IntKind.i64.wrap (p.p + 1) = p.p + 1 := fun h => by have := in_range (ws := ws) (p := p.p) (by omega); rw [wrap_i64]; omega
  simp only [*, ↓ZD, ZW, RO, simprocAttr]
  refine ⟨fun h2 => ?_, fun h2 => ?_⟩
  ·have hk := beq_iff_eq.1 h2
   rw [if_pos hk] at hR
   simp only [Option.some.injEq, Prod.mk.injEq] at hR
   obtain ⟨rfl, rfl⟩ := hR
   have hw1 := hw1 (by omega)
   refine CallE.pure (lit_pure F' ⟨2, false, (wdAt ws p.p).1.2.2, [], [], []⟩) ?_
   simp only [*, xcells, ↓ZD, ZW, RO, simprocAttr]
   exact PFin.m (cs := xcells 1 ⟨2, false, (wdAt ws p.p).1.2.2, [], [], []⟩ (.slice none 0 0) (.slice none 0 0) [] (.slice none 0 0) (.slice none 0 0)) [] (Agr.rfl' (s := adv p)) (by simp [adv, *]) ⟨rfl, rfl, rfl, rfl⟩ (fun _ => repP_leaf (i64_lit rfl) (i64_lit rfl) (wdAt_ok hws p.p).2.1) trivial Wk.nil all_nil
  rw [if_neg (beq_eq_false_iff_ne.1 h2)] at hR
  refine ⟨fun h3 => ?_, fun h3 => ?_⟩
  ·have hk := beq_iff_eq.1 h3
   rw [if_pos hk] at hR
   simp only [Option.some.injEq, Prod.mk.injEq] at hR
   obtain ⟨rfl, rfl⟩ := hR
   have hw1 := hw1 (by omega)
   refine CallE.pure (lit_pure F' ⟨3, false, 0, (wdAt ws p.p).1.2.1, [], []⟩) ?_
   simp only [*, xcells, ↓ZD, ZW, RO, simprocAttr]
   exact PFin.m (cs := xcells 1 ⟨3, false, 0, (wdAt ws p.p).1.2.1, [], []⟩ (.slice none 0 0) (.slice none 0 0) [] (.slice none 0 0) (.slice none 0 0)) [] (Agr.rfl' (s := adv p)) (by simp [adv, *]) ⟨rfl, rfl, rfl, rfl⟩ (fun _ => repP_leaf (i64_lit rfl) (i64_lit rfl) (i64_lit rfl)) trivial Wk.nil all_nil
  rw [if_neg (beq_eq_false_iff_ne.1 h3)] at hR
  refine ⟨fun h4 => ?_, fun h4 => ?_⟩
  ·have hk := beq_iff_eq.1 h4
   rw [if_pos hk] at hR
   have hw1 := hw1 (by omega)
   have hsb := slot_ne (wdAt ws p.p).1.2.1
   by_cases hm : (wdAt ws p.p).1.2.1 ∈ slotL
   ·rw [if_pos hm] at hR
    simp only [Option.some.injEq, Prod.mk.injEq] at hR
    obtain ⟨rfl, rfl⟩ := hR
    rw [decide_eq_true hm] at hsb
    simp only [*, ↓ZD, ZW, RO, simprocAttr]
    exact PFin.m (cs := xcells 3 lv0 (.slice none 0 0) (.slice none 0 0) (wdAt ws p.p).1.2.1 (.slice none 0 0) (.slice none 0 0)) [] (Agr.rfl' (s := adv p)) (by simp [adv, *]) ⟨rfl, rfl, rfl, rfl⟩ (fun _ => repP_leaf (i64_lit rfl) (i64_lit rfl) (i64_lit rfl)) trivial Wk.nil all_nil
   ·rw [if_neg hm] at hR
    simp only [Option.some.injEq, Prod.mk.injEq] at hR
    obtain ⟨rfl, rfl⟩ := hR
    rw [decide_eq_false hm] at hsb
    clear hw1
    simp only [*, ↓ZD, ZW, RO, simprocAttr]
    refine CallE.rdq (fail_q hW p 10) rfl (by simp only [*, ↓ZD, ZW, RO, simprocAttr]) ?_
    simp only [*, ↓ZD, ZW, RO, simprocAttr]
    exact PFin.m (p := ⟨IntKind.i64.wrap ((failS ws p 10).p + 1), (failS ws p 10).deep, (failS ws p 10).e, (failS ws p 10).bad⟩) [] (.inr ⟨failS_e (by decide), rfl, rfl⟩) rfl ⟨rfl, rfl, rfl, rfl⟩ (fun h => absurd h (failS_e (by decide))) trivial Wk.nil all_nil
  rw [if_neg (beq_eq_false_iff_ne.1 h4)] at hR
  refine ⟨fun h5 => ?_, fun h5 => ?_⟩
  ·have hk := beq_iff_eq.1 h5
   rw [if_pos hk] at hR
   have hRx := Option.some.inj hR
   obtain rfl : x = (nameG ws p).1 := by rw [hRx]
   obtain rfl : s' = (nameG ws p).2 := by rw [hRx]
   clear hR hRx hw1
   refine CallG.prs (s' := (nameG ws p).2) (x := (nameG ws p).1) (fun F2 hE _ hb2 => name_does F2 (hMx.mono hE) hws (hW.mono hE) hb2 he0 hk) rfl (by simp only [*, ↓ZD, ZW, RO, simprocAttr]) ?_
   rintro p1 cs1 G1 hA1 hr1 ⟨_, _, ⟨_, _, _, _⟩, hx1, _⟩
   simp only [*, ↓ZD, ZW, RO, simprocAttr]
   exact PFin.g hA1 rfl ‹_› hr1 ‹_› ‹_›
  rw [if_neg (beq_eq_false_iff_ne.1 h5)] at hR
  refine CallE.rdq (skip_q hW Agr.rfl' [40]) rfl (by simp only [*, ↓ZD, ZW, RO, simprocAttr]) ?_
  rcases tf (isS ws p [40]) with hi | hi
  ·rw [hi, if_pos rfl] at hR
   obtain ⟨⟨x1, s1⟩, hR1, hR⟩ := map_some' hR
   simp only [Prod.mk.injEq] at hR
   obtain ⟨rfl, rfl⟩ := hR
   simp only [*, ↓ZD, ZW, RO, simprocAttr]
   refine CallE.par ((h1 N (Nat.le_refl _)).mono hFF) (Agr.rfl' (s := adv p)) hg.adv hR1 rfl (by simp only [*, ↓ZD, ZW, RO, simprocAttr]) ?_
   rintro p1 cs1 G1 hA1 hr1 ⟨_, _, ⟨_, _, _, _⟩, hx1, _⟩
   simp only [*, ↓ZD, ZW, RO, simprocAttr]
   refine NewB.n ?_
   rintro b4 ⟨_, _, _, _, _, _, _, _, _⟩ _
   simp only [*, ↓ZD, ZW, RO, simprocAttr]
   refine CallE.rdq (must_q hW p1 [41]) rfl (by simp only [*, ↓ZD, ZW, RO, simprocAttr]) ?_
   simp only [*, ↓ZD, ZW, RO, simprocAttr]
   exact PFin.g hA1.must rfl ‹_› (fun he => hr1 (must_e he)) ‹_› ‹_›
  rw [hi, if_neg (by decide)] at hR
  simp only [*, ↓ZD, ZW, RO, simprocAttr]
  clear hi
  refine CallE.rdq (skip_q hW Agr.rfl' [91]) rfl (by simp only [*, ↓ZD, ZW, RO, simprocAttr]) ?_
  rcases tf (isS ws p [91]) with hi | hi
  ·rw [hi, if_pos rfl] at hR
   simp only [*, ↓ZD, ZW, RO, simprocAttr]
   refine NewB.n ?_
   rintro b4 ⟨_, _, _, _, _, _, _, _, _⟩ hF4
   simp only [*, ↓ZD, ZW, RO, simprocAttr]
   obtain ⟨F1, hF1e⟩ : ∃ F1 : Base, F1 = rdObj F' [(b1, .cells #[.pointer (some ⟨b, 0, none⟩)] 138 (0, 0))] := ⟨_, rfl⟩
   have up1 : ∀ b o, F' b = some o → F1 b = some o := by rw [hF1e]; exact le_up
   refine CallE.does (F1 := F1) (itH l b b4 19 ⟨adv p, adv p, [], [], [], .slice none 0 0, .slice none 0 0, [], [], []⟩) [(b3, .cells #[.int .i64 (wdAt ws p.p).1.1, .string (bs (wdAt ws p.p).1.2.1), .int .i64 (wdAt ws p.p).1.2.2, .int .i64 (wdAt ws p.p).2] 63 (0, 0)), (b2, .cells zx.toArray 39 (0, 0)), (b1, .cells #[.pointer (some ⟨b, 0, none⟩)] 138 (0, 0))] (list_does F1 hws (hW.mono up1) ‹b ≠ b4› (by rw [hF1e]; simp [rdObj, lk, *]) (by rw [hF1e]; simp [rdObj, lk, *]) 19 N (fun n hn => one1 F1 (hW.mono up1) ‹b ≠ b4› (by rw [hF1e]; simp [rdObj, lk, *]) (by rw [hF1e]; simp [rdObj, lk, *]) (by rw [hF1e]; exact rdObj_hd hF1) n ((h1 n hn).mono fun b o h => up1 b o (hFF b o h))) _ (it_nil hg.adv) rfl rfl rfl he0 (by have := isS_range hi; show (0 : Int) ≤ p.p + 1; omega) hR) ?_ (by simp [itH]) (by simp) (by simp [itH, *]) ?_
   ·rw [hF1e]; exact fun _ _ h => rdObj_sub (by simp [lk, *]) h
   rintro v H' ⟨rfl, y', k1, k2, k3, k4, rfl⟩ d1 d2 d3
   have d2' := fun e he => d2 e he
   simp only [List.forall_mem_cons, List.not_mem_nil, false_implies, implies_true, and_true] at d2
   have d22 : Nb b2 (y'.Hk ++ (y'.Hn ++ y'.G)) := .of fun e he => d2.2.1 e (List.mem_cons_of_mem _ (List.mem_cons_of_mem _ he))
   have d21 : Nb b1 (y'.Hk ++ (y'.Hn ++ y'.G)) := .of fun e he => d2.2.2 e (List.mem_cons_of_mem _ (List.mem_cons_of_mem _ he))
   have off := it_off (op := 19) k1 ‹b ≠ b4›
   unfold itH
   have ok1 : oneCell y'.vk = true := by obtain ⟨_, _, h, _⟩ := k1.hk.len_le; rw [h]; rfl
   have ok2 : oneCell y'.vn = true := by obtain ⟨_, _, h, _⟩ := k1.hn.len_le; rw [h]; rfl
   have u2 : ∀ o, upd (y'.Hk ++ (y'.Hn ++ y'.G)) b2 o = y'.Hk ++ (y'.Hn ++ y'.G) := fun o => upd_nb d22
   clear d1 d2 d3 d2'
   simp only [*, ↓u2, ↓ZD, ZW, RO, simprocAttr]
   subst hF1e
   refine ⟨y'.p, xcells 19 lv0 (.slice none 0 0) (.slice none 0 0) [] y'.vk y'.vn, (b1, .cells #[.pointer (some ⟨b, 0, none⟩)] 138 (0, 0)) :: (y'.Hk ++ (y'.Hn ++ y'.G)), by rw [← k2]; exact k1.A, rfl, ⟨rfl, by unfold xcells; simp only [List.all_cons, List.all_nil, ok1, ok2]; rfl, rfl, rfl⟩, fun he => ?_, all_cons (Ne.symm ‹b ≠ b1›) (fun e he => off e (List.mem_cons_of_mem _ he)), (it_wkx k1).cb d21, by simp, by simp +contextual⟩
   rw [k3 he]
   exact (it_rep k1 (i64_lit rfl) (by rw [k2]; exact he) k4).mono fun _ _ h => rdObj_app (G := [(b1, .cells #[.pointer (some ⟨b, 0, none⟩)] 138 (0, 0))]) h
  rw [hi, if_neg (by decide)] at hR
  simp only [*, ↓ZD, ZW, RO, simprocAttr]
  clear hi
  refine CallE.rdq (skip_q hW Agr.rfl' [123]) rfl (by simp only [*, ↓ZD, ZW, RO, simprocAttr]) ?_
  rcases tf (isS ws p [123]) with hi | hi
  ·rw [hi, if_pos rfl] at hR
   simp only [*, ↓ZD, ZW, RO, simprocAttr]
   refine NewB.n ?_
   rintro b4 ⟨_, _, _, _, _, _, _, _, _⟩ hF4
   simp only [*, ↓ZD, ZW, RO, simprocAttr]
   obtain ⟨F1, hF1e⟩ : ∃ F1 : Base, F1 = rdObj F' [(b1, .cells #[.pointer (some ⟨b, 0, none⟩)] 138 (0, 0))] := ⟨_, rfl⟩
   have up1 : ∀ b o, F' b = some o → F1 b = some o := by rw [hF1e]; exact le_up
   refine CallE.does (F1 := F1) (itH l b b4 20 ⟨adv p, adv p, [], [], [], .slice none 0 0, .slice none 0 0, [], [], []⟩) [(b3, .cells #[.int .i64 (wdAt ws p.p).1.1, .string (bs (wdAt ws p.p).1.2.1), .int .i64 (wdAt ws p.p).1.2.2, .int .i64 (wdAt ws p.p).2] 63 (0, 0)), (b2, .cells zx.toArray 39 (0, 0)), (b1, .cells #[.pointer (some ⟨b, 0, none⟩)] 138 (0, 0))] (list_does F1 hws (hW.mono up1) ‹b ≠ b4› (by rw [hF1e]; simp [rdObj, lk, *]) (by rw [hF1e]; simp [rdObj, lk, *]) 20 N (fun n hn => one2 F1 hws (hW.mono up1) ‹b ≠ b4› (by rw [hF1e]; simp [rdObj, lk, *]) (by rw [hF1e]; simp [rdObj, lk, *]) (by rw [hF1e]; exact rdObj_hd hF1) n ((h1 n hn).mono fun b o h => up1 b o (hFF b o h))) _ (it_nil hg.adv) rfl rfl rfl he0 (by have := isS_range hi; show (0 : Int) ≤ p.p + 1; omega) hR) ?_ (by simp [itH]) (by simp) (by simp [itH, *]) ?_
   ·rw [hF1e]; exact fun _ _ h => rdObj_sub (by simp [lk, *]) h
   rintro v H' ⟨rfl, y', k1, k2, k3, k4, rfl⟩ d1 d2 d3
   have d2' := fun e he => d2 e he
   simp only [List.forall_mem_cons, List.not_mem_nil, false_implies, implies_true, and_true] at d2
   have d22 : Nb b2 (y'.Hk ++ (y'.Hn ++ y'.G)) := .of fun e he => d2.2.1 e (List.mem_cons_of_mem _ (List.mem_cons_of_mem _ he))
   have d21 : Nb b1 (y'.Hk ++ (y'.Hn ++ y'.G)) := .of fun e he => d2.2.2 e (List.mem_cons_of_mem _ (List.mem_cons_of_mem _ he))
   have off := it_off (op := 20) k1 ‹b ≠ b4›
   unfold itH
   have ok1 : oneCell y'.vk = true := by obtain ⟨_, _, h, _⟩ := k1.hk.len_le; rw [h]; rfl
   have ok2 : oneCell y'.vn = true := by obtain ⟨_, _, h, _⟩ := k1.hn.len_le; rw [h]; rfl
   have u2 : ∀ o, upd (y'.Hk ++ (y'.Hn ++ y'.G)) b2 o = y'.Hk ++ (y'.Hn ++ y'.G) := fun o => upd_nb d22
   clear d1 d2 d3 d2'
   simp only [*, ↓u2, ↓ZD, ZW, RO, simprocAttr]
   subst hF1e
   refine ⟨y'.p, xcells 20 lv0 (.slice none 0 0) (.slice none 0 0) [] y'.vk y'.vn, (b1, .cells #[.pointer (some ⟨b, 0, none⟩)] 138 (0, 0)) :: (y'.Hk ++ (y'.Hn ++ y'.G)), by rw [← k2]; exact k1.A, rfl, ⟨rfl, by unfold xcells; simp only [List.all_cons, List.all_nil, ok1, ok2]; rfl, rfl, rfl⟩, fun he => ?_, all_cons (Ne.symm ‹b ≠ b1›) (fun e he => off e (List.mem_cons_of_mem _ he)), (it_wkx k1).cb d21, by simp, by simp +contextual⟩
   rw [k3 he]
   exact (it_rep k1 (i64_lit rfl) (by rw [k2]; exact he) k4).mono fun _ _ h => rdObj_app (G := [(b1, .cells #[.pointer (some ⟨b, 0, none⟩)] 138 (0, 0))]) h
  rw [hi, if_neg (by decide)] at hR
  simp only [*, ↓ZD, ZW, RO, simprocAttr]
  clear hi
  simp only [Option.some.injEq, Prod.mk.injEq] at hR
  obtain ⟨rfl, rfl⟩ := hR
  refine CallE.rdq (fail_q hW p 10) rfl (by simp only [*, ↓ZD, ZW, RO, simprocAttr]) ?_
  simp only [*, ↓ZD, ZW, RO, simprocAttr]
  exact PFin.m [] Agr.rfl' rfl ⟨rfl, rfl, rfl, rfl⟩ (fun h => absurd h (failS_e (by decide))) trivial Wk.nil all_nil
 ·have hd : (p.e != 0) = true := by rw [hA.e]; simpa using he0
  obtain ⟨rfl, rfl⟩ := G_err he0 _ _ hR
  simp only [*, ↓ZD, ZW, RO, simprocAttr]
  exact PFin.m [] hA rfl ⟨rfl, rfl, rfl, rfl⟩ (fun h => absurd h he0) trivial Wk.nil all_nil
end Go.Proofs.YtnenbihkcjgddaaGreatDoor
namespace Go.Proofs.YtnenbihkcjgddaaGreatDoor
open Go Go.Eng
set_option maxHeartbeats 1000000
set_option linter.unusedSimpArgs false
set_option linter.unusedVariables false
set_option maxRecDepth 20000
theorem Prs.weak {F : Base} {l : Value} {f : Nat} {R R' : St → Option (Ex' × St)} (h : Prs F l f R) (hR : ∀ s y, R' s = some y → R s = some y) : Prs F l f R' :=
 fun F' hF b p s x s' hFb hA hg h' => h F' hF b p s x s' hFb hA hg (hR s (x, s') h')
theorem prs_none (F : Base) (l : Value) (f : Nat) : Prs F l f (fun _ => none) := fun _ _ _ _ _ _ _ _ _ _ h => by cases h
theorem rel_weak {ws : Ws} {n : Nat} {s : St} {y : Ex' × St} (h : G ws (n + 1) .rel s = some y) : relG ws (G ws n) s = some y := by
 rw [G_succ] at h
 split at h
 ·exact h
 ·rename_i he
  unfold relG
  rw [G_at he, Option.bind_some]
  simp only [isS_err he, Bool.false_eq_true, if_false]
  exact h
structure AllP (F : Base) (ws : Ws) (l : Value) (n : Nat) : Prop where
 ex : Prs F l 86 (G ws n .expr)
 un : Prs F l 136 (G ws n .unary)
 pr : Prs F l 139 (G ws n .prim)
 me : Prs F l 138 (G ws n .member)
 l3 : Prs F l 135 (G ws n (.lev 3))
 l2 : Prs F l 134 (G ws n (.lev 2))
 re : Prs F l 130 (G ws n .rel)
 l1 : Prs F l 123 (G ws n (.lev 1))
 l0 : Prs F l 114 (G ws n (.lev 0))
theorem all0 (F : Base) (hMx : HasMx F) {ws : Ws} (hws : WsOk ws) {l : Value} (hW : HasW F ws l) : AllP F ws l 0 := by
 have dn : ∀ {nt : NT} {f : Nat}, Prs F l f (G ws 1 nt) → Prs F l f (G ws 0 nt) := fun h => h.weak fun s y hy => G_mono1 ws 0 _ _ _ hy
 have ex : Prs F l 86 (G ws 0 .expr) := (expr_prs F hW (fun _ => none) (fun _ _ h => by cases h) (prs_none F l _)).weak fun s y hy => by
  obtain ⟨he, rfl⟩ := G_zero hy; exact if_neg he
 have un : Prs F l 136 (G ws 0 .unary) := (unary_prs F hW (fun _ => none) (fun _ _ h => by cases h) (prs_none F l _)).weak fun s y hy => by
  obtain ⟨he, rfl⟩ := G_zero hy; exact if_neg he
 have z : ∀ {P : Nat → Prop}, P 0 → ∀ n ≤ 0, P n := fun h n hn => Nat.le_zero.1 hn ▸ h
 have pr := dn (primary_prs F hMx hws hW 0 (z ex))
 have me := dn (member_prs F hW 0 (z pr) (z ex))
 have l3 := dn (product_prs F hW 0 (z un))
 have l2 := dn (sum_prs F hW 0 (z l3))
 have re := dn ((rel_prs F hws hW 0 l2).weak fun s y hy => rel_weak hy)
 have l1 := dn (and_prs F hW 0 (z re))
 have l0 := dn (or_prs F hW 0 (z l1))
 exact ⟨ex, un, pr, me, l3, l2, re, l1, l0⟩
theorem allP (F : Base) (hMx : HasMx F) {ws : Ws} (hws : WsOk ws) {l : Value} (hW : HasW F ws l) : ∀ n, AllP F ws l n := by
 intro n
 induction n using Nat.strongRecOn with
 | _ n ih =>
  cases n with
  | zero => exact all0 F hMx hws hW
  | succ k =>
   have le : ∀ m ≤ k, AllP F ws l m := fun m hm => ih m (by omega)
   have hk := le k (Nat.le_refl _)
   refine ⟨?_, ?_, ?_, ?_, ?_, ?_, ?_, ?_, ?_⟩
   ·exact (expr_prs F hW (choiceG ws (G ws k)) (fun s y h => goes_choice (G_goes ws k) h) (choice_prs F hW k hk.ex hk.l0)).weak fun s y hy => hy
   ·exact (unary_prs F hW (prefG ws (G ws k)) (fun s y h => goes_pref (G_goes ws k) h) (prefix_prs F hW k hk.un hk.me)).weak fun s y hy => hy
   ·exact primary_prs F hMx hws hW k fun m hm => (le m hm).ex
   ·exact member_prs F hW k (fun m hm => (le m hm).pr) fun m hm => (le m hm).ex
   ·exact product_prs F hW k fun m hm => (le m hm).un
   ·exact sum_prs F hW k fun m hm => (le m hm).l3
   ·exact (rel_prs F hws hW k hk.l2).weak fun s y hy => rel_weak hy
   ·exact and_prs F hW k fun m hm => (le m hm).re
   ·exact or_prs F hW k fun m hm => (le m hm).l1
def st0 (i : Int) : St := ⟨i, 0, 0, 0⟩
theorem st0_good (i : Int) : Good (st0 i) := fun _ => ⟨Int.le_refl _, by show (0 : Int) ≤ 50; decide⟩
def readS (ws : Ws) (i : Int) : Ex' × Int × Int × Int := if (runG ws .expr (st0 i)).2.e = 0 then ((runG ws .expr (st0 i)).1, (runG ws .expr (st0 i)).2.p, 0, 0) else (nilX, 0, (runG ws .expr (st0 i)).2.e, (runG ws .expr (st0 i)).2.bad)
def ReadP (F : Base) (R : Ex' × Int × Int × Int) (r : Value) (H' : Hp) : Prop := ∃ cs, r = .tuple #[.agg cs.toArray, .int .i64 R.2.1, .int .i64 R.2.2.1, .int .i64 R.2.2.2] ∧ Ok12 cs ∧ RepP (rdObj F H') cs R.1 ∧ Wk H'
theorem read_does (F : Base) (hMx : HasMx F) {ws : Ws} (hws : WsOk ws) {l : Value} (hW : HasW F ws l) (i : Int) : Does Tryz.prog F 58 #[l, .int .i64 i] [] (ReadP F (readS ws i)) := by
 obtain ⟨bw, cap, sp, T, fz, rfl, hFw, -⟩ := id hW
 refine Does.shr (K := fun r H' => ∃ cs Hx, r = .tuple #[.agg cs.toArray, .int .i64 (readS ws i).2.1, .int .i64 (readS ws i).2.2.1, .int .i64 (readS ws i).2.2.2] ∧ Ok12 cs ∧ RepP (rdObj F Hx) cs (readS ws i).1 ∧ Wk Hx ∧ ∀ e ∈ Hx, e ∈ H') ?_ fun r H' ⟨cs, Hx, h1, h2, h3, h4, h5⟩ => ⟨Hx, h5, cs, h1, h2, h3, h4⟩
 refine does_of_svc (args := [.slice (some ⟨bw, 0, none⟩) ws.length cap, .int .i64 i]) mixed Tryz.func58 low58 (Nat.le_of_ble_eq_true rfl) fun w0 hw0 => ?_
 obtain ⟨n, hn⟩ := runG_ex ws .expr (st0 i)
 unfold readS
 generalize runG ws .expr (st0 i) = y at *
 obtain ⟨x, s'⟩ := y
 simp only [*, fu58, ↓ZD, ZW, RO, simprocAttr]
 refine NewB.n ?_
 rintro b1 _ _
 simp only [*, ↓ZD, ZW, RO, simprocAttr]
 refine NewB.n ?_
 rintro b ⟨_, _, _⟩ _
 simp only [*, ↓ZD, ZW, RO, simprocAttr]
 refine CallE.par (s := st0 i) (p := st0 i) (allP F hMx hws hW n).ex Agr.rfl' (st0_good i) hn (by simp [st0]) (by simp only [*, ↓ZD, ZW, RO, simprocAttr]) ?_
 rintro p1 cs1 G1 hA1 hr1 ⟨_, _, ⟨_, _⟩, _, _⟩
 simp only [*, ↓ZD, ZW, RO, simprocAttr]
 refine NewB.n ?_
 rintro b3 ⟨_, _, _, _, _⟩ _
 simp only [*, ↓ZD, ZW, RO, simprocAttr]
 refine ⟨fun h => ?_, fun h => ?_⟩
 ·have he : s'.e ≠ 0 := by rw [← hA1.e]; simpa using h
  rw [if_neg he, ← hA1.e, ← hA1.bad]
  refine TreeL.open ?_
  simp only [*, ↓ZD, ZW, RO, simprocAttr]
  repeat' (first | exact ⟨xcells 0 lv0 (.slice none 0 0) (.slice none 0 0) [] (.slice none 0 0) (.slice none 0 0), [], rfl, ⟨rfl, rfl, rfl, rfl⟩, repP_nil, Wk.nil, all_nil⟩ | apply And.intro)
 ·have he : s'.e = 0 := by rw [← hA1.e]; simpa using h
  obtain rfl := hA1.ok he
  rw [if_pos he]
  refine TreeL.open ?_
  simp only [*, ↓ZD, ZW, RO, simprocAttr]
  repeat' (first | exact ⟨cs1, G1, rfl, ‹_›, hr1 he, ‹_›, by simp +contextual⟩ | apply And.intro)
def uidR (ws : Ws) (i : Int) : (Str × Str) × Int × Int × Int := if (uidS ws (st0 i)).2.e = 0 then ((uidS ws (st0 i)).1, (uidS ws (st0 i)).2.p, 0, 0) else (([], []), 0, (uidS ws (st0 i)).2.e, (uidS ws (st0 i)).2.bad)
theorem uid_pure (F : Base) {ws : Ws} (hws : WsOk ws) {l : Value} (hW : HasW F ws l) (i : Int) : PureV Tryz.prog F 85 #[l, .int .i64 i] (.tuple #[.agg #[.string (bs (uidR ws i).1.1), .string (bs (uidR ws i).1.2)], .int .i64 (uidR ws i).2.1, .int .i64 (uidR ws i).2.2.1, .int .i64 (uidR ws i).2.2.2]) := by
 obtain ⟨bw, cap, sp, T, fz, rfl, hFw, -⟩ := id hW
 refine pureV_of_svc (args := [.slice (some ⟨bw, 0, none⟩) ws.length cap, .int .i64 i]) mixed Tryz.func85 low85 (Nat.le_of_ble_eq_true rfl) fun w0 => ?_
 unfold uidR
 simp only [*, fu85, ↓ZD, ZW, RO, simprocAttr]
 refine NewB.n ?_
 rintro b1 _ _
 simp only [*, ↓ZD, ZW, RO, simprocAttr]
 refine NewB.n ?_
 rintro b ⟨_, _, _⟩ _
 simp only [*, ↓ZD, ZW, RO, simprocAttr]
 refine CallE.rdq (p := st0 i) (uid_q hws hW (st0 i)) (by simp [st0]) (by simp only [*, ↓ZD, ZW, RO, simprocAttr]) ?_
 simp only [*, ↓ZD, ZW, RO, simprocAttr]
 refine NewB.n ?_
 rintro b3 ⟨_, _, _, _, _⟩ _
 simp only [*, ↓ZD, ZW, RO, simprocAttr]
 refine ⟨fun h => ?_, fun h => ?_⟩
 ·have he : (uidS ws (st0 i)).2.e ≠ 0 := by simpa using h
  rw [if_neg he]
  refine TreeL.open ?_
  simp only [*, ↓ZD, ZW, RO, simprocAttr]
 ·have he : (uidS ws (st0 i)).2.e = 0 := by simpa using h
  rw [if_pos he]
  refine TreeL.open ?_
  simp only [*, ↓ZD, ZW, RO, simprocAttr]
end Go.Proofs.YtnenbihkcjgddaaGreatDoor
namespace Go.Proofs.YtnenbihkcjgddaaGreatDoor
open Go Go.Eng
set_option maxHeartbeats 1000000
set_option linter.unusedSimpArgs false
set_option linter.unusedVariables false
set_option maxRecDepth 20000
abbrev PV (l : Value) (p : St) : Value := .agg #[l, .int .i64 p.p, .int .i64 p.deep, .int .i64 p.e, .int .i64 p.bad]
theorem HasW.one' {F : Base} {ws : Ws} {l : Value} (h : HasW F ws l) : oneCell l = true := by
 obtain ⟨b, cap, sp, T, fz, rfl, -⟩ := h; rfl
theorem rword_pure (F : Base) {ws : Ws} {l : Value} (hW : HasW F ws l) (p : St) : PureV Tryz.prog F 69 #[PV l p] (.agg (wdV (wdAt ws p.p).1 (wdAt ws p.p).2).toArray) := by
 obtain ⟨bw, cap, sp, T, fz, rfl, hFw, hc, hm, hne⟩ := hW
 have hpos : 0 < ws.length := List.length_pos_iff.2 hne
 refine pureV_of_svc (args := [PV _ p]) mixed Tryz.func69 low69 (Nat.le_of_ble_eq_true rfl) (fun w0 => ?_)
 simp (disch := first | assumption | exact Ne.symm (by assumption) | omega) only [fu69, ↓ZD, ZW, simprocAttr]
 refine NewB.of fun b1 hb1 hF1 => ?_
 simp (disch := first | assumption | exact Ne.symm (by assumption) | omega) only [hF1, ↓ZD, ZW, simprocAttr]
 refine NewB.of fun b2 hb2 hF2 => ?_
 simp only [List.forall_mem_cons, List.not_mem_nil, false_implies, implies_true, and_true] at hb2
 simp (disch := first | assumption | exact Ne.symm (by assumption) | omega) only [hF1, hF2, ↓ZD, ZW, simprocAttr]
 by_cases h : 0 ≤ p.p ∧ p.p < ws.length
 ·obtain ⟨i, hi⟩ : ∃ i : Nat, p.p = i := ⟨p.p.toNat, by omega⟩
  have hlt : i < ws.length := by omega
  have h1 : decide ((0 : Int) ≤ (i : Int)) = true := by simp
  have h2 : decide ((i : Int) < (ws.length : Int)) = true := by simp; omega
  have hld := wds_at (sp := sp) (T := T) (fz := fz) hlt
  rw [hi, wdAt_in hlt]
  simp (disch := first | assumption | exact Ne.symm (by assumption) | omega) only [hF1, hF2, h1, h2, hFw, hld, Int.toNat_natCast, wdV, ↓ZD, ZW, simprocAttr]
  refine conj.of (by omega) ?_
  simp (disch := first | assumption | exact Ne.symm (by assumption) | omega) only [hF1, hF2, h1, h2, hFw, hld, Int.toNat_natCast, wdV, ↓ZD, ZW, simprocAttr]
 ·have h1 : (decide (0 ≤ p.p) && decide (p.p < (ws.length : Int))) = false := by
   rw [Bool.and_eq_false_iff, decide_eq_false_iff_not, decide_eq_false_iff_not]; omega
  have h2 : decide ((0 : Int) < (ws.length : Int)) = true := by simp; omega
  have h3 : ((ws.length : Int) - 1).toNat = ws.length - 1 := by omega
  have hld := wds_at3 (ws := ws) (sp := sp) (T := T) (fz := fz) (i := ws.length - 1) (by omega)
  rw [wdAt_out h]
  simp (disch := first | assumption | exact Ne.symm (by assumption) | omega) only [hF1, hF2, h1, h2, h3, hFw, hld, Int.toNat_natCast, wdV, ↓ZD, ZW, simprocAttr]
  refine conj.of (by omega) ?_
  simp (disch := first | assumption | exact Ne.symm (by assumption) | omega) only [hF1, hF2, h1, h2, h3, hFw, hld, Int.toNat_natCast, wdV, ↓ZD, ZW, simprocAttr]
theorem rIs_pure (F : Base) {ws : Ws} {l : Value} (hW : HasW F ws l) (p : St) (t : Str) : PureV Tryz.prog F 35 #[PV l p, .string (bs t)] (.bool (isS ws p t)) := by
 refine pureV_of_svc (args := [PV _ p, .string (bs t)]) mixed Tryz.func35 low35 (Nat.le_of_ble_eq_true rfl) (fun w0 => ?_)
 simp (disch := first | assumption | exact Ne.symm (by assumption) | omega) only [fu35, ↓ZD, ZW, simprocAttr]
 refine NewB.of fun b1 hb1 hF1 => ?_
 simp (disch := first | assumption | exact Ne.symm (by assumption) | omega) only [hF1, ↓ZD, ZW, simprocAttr]
 refine CallE.pure (rword_pure F hW p) ?_
 simp (disch := first | assumption | exact Ne.symm (by assumption) | omega) only [hF1, wdV, ↓ZD, ZW, simprocAttr]
 refine NewB.of fun b2 hb2 hF2 => ?_
 simp only [List.forall_mem_cons, List.not_mem_nil, false_implies, implies_true, and_true] at hb2
 simp (disch := first | assumption | exact Ne.symm (by assumption) | omega) only [hF1, hF2, wdV, ↓ZD, ZW, simprocAttr]
 unfold isS wk wtx
 rw [Bool.or_comm (((wdAt ws p.p).1.1 : Int) == 5)]
theorem rfail_pure (F : Base) {ws : Ws} {l : Value} (hW : HasW F ws l) (p : St) (e : Int) : PureV Tryz.prog F 93 #[PV l p, .int .i64 e] (PV l (failS ws p e)) := by
 have hol := hW.one'
 refine pureV_of_svc (args := [PV _ p, .int .i64 e]) mixed Tryz.func93 low93 (Nat.le_of_ble_eq_true rfl) (fun w0 => ?_)
 simp (disch := first | assumption | exact Ne.symm (by assumption) | omega) only [fu93, ↓ZD, ZW, simprocAttr]
 refine NewB.of fun b1 hb1 hF1 => ?_
 simp (disch := first | assumption | exact Ne.symm (by assumption) | omega) only [hol, hF1, ↓ZD, ZW, simprocAttr]
 refine NewB.of fun b2 hb2 hF2 => ?_
 simp only [List.forall_mem_cons, List.not_mem_nil, false_implies, implies_true, and_true] at hb2
 simp (disch := first | assumption | exact Ne.symm (by assumption) | omega) only [hol, hF1, hF2, ↓ZD, ZW, simprocAttr]
 unfold failS
 by_cases h : p.e = 0
 ·have hd : (p.e == 0) = true := by simpa using h
  rw [if_pos h]
  simp (disch := first | assumption | exact Ne.symm (by assumption) | omega) only [hol, hF1, hF2, hd, ↓ZD, ZW, simprocAttr]
  refine CallE.pure (rword_pure F hW ⟨p.p, p.deep, e, p.bad⟩) ?_
  simp (disch := first | assumption | exact Ne.symm (by assumption) | omega) only [hol, hF1, hF2, wf3, wsz, ↓ZD, ZW, simprocAttr]
 ·have hd : (p.e == 0) = false := by simpa using h
  rw [if_neg h]
  simp (disch := first | assumption | exact Ne.symm (by assumption) | omega) only [hol, hF1, hF2, hd, ↓ZD, ZW, simprocAttr]
theorem rmust_pure (F : Base) {ws : Ws} {l : Value} (hW : HasW F ws l) (p : St) (t : Str) : PureV Tryz.prog F 74 #[PV l p, .string (bs t)] (PV l (mustS ws p t)) := by
 have hol := hW.one'
 have hlen := hW.len
 refine pureV_of_svc (args := [PV _ p, .string (bs t)]) mixed Tryz.func74 low74 (Nat.le_of_ble_eq_true rfl) (fun w0 => ?_)
 simp (disch := first | assumption | exact Ne.symm (by assumption) | omega) only [fu74, ↓ZD, ZW, simprocAttr]
 refine NewB.of fun b1 hb1 hF1 => ?_
 simp (disch := first | assumption | exact Ne.symm (by assumption) | omega) only [hol, hF1, ↓ZD, ZW, simprocAttr]
 refine NewB.of fun b2 hb2 hF2 => ?_
 simp only [List.forall_mem_cons, List.not_mem_nil, false_implies, implies_true, and_true] at hb2
 simp (disch := first | assumption | exact Ne.symm (by assumption) | omega) only [hol, hF1, hF2, ↓ZD, ZW, simprocAttr]
 refine CallE.pure (rIs_pure F hW p t) ?_
 unfold mustS
 cases h : isS ws p t with
 | true =>
  have hr := isS_range h
  have hw1 : IntKind.i64.wrap (p.p + 1) = p.p + 1 := by rw [wrap_i64]; omega
  simp (disch := first | assumption | exact Ne.symm (by assumption) | omega) only [hol, hF1, hF2, h, hw1, adv, ↓ZD, ZW, simprocAttr]
 | false =>
  simp (disch := first | assumption | exact Ne.symm (by assumption) | omega) only [hol, hF1, hF2, h, ↓ZD, ZW, simprocAttr]
  refine CallE.pure (rfail_pure F hW p 10) ?_
  simp (disch := first | assumption | exact Ne.symm (by assumption) | omega) only [hol, hF1, hF2, ↓ZD, ZW, simprocAttr]
theorem rtake_pure (F : Base) {ws : Ws} {l : Value} (hW : HasW F ws l) (p : St) (k : Int) (hk : k ≠ 0) : PureV Tryz.prog F 116 #[PV l p, .int .i64 k] (.tuple #[PV l (takeS ws p k).2, .string (bs (takeS ws p k).1)]) := by
 have hol := hW.one'
 have hlen := hW.len
 refine pureV_of_svc (args := [PV _ p, .int .i64 k]) mixed Tryz.func116 low116 (Nat.le_of_ble_eq_true rfl) (fun w0 => ?_)
 simp (disch := first | assumption | exact Ne.symm (by assumption) | omega) only [fu116, ↓ZD, ZW, simprocAttr]
 refine NewB.of fun b1 hb1 hF1 => ?_
 simp (disch := first | assumption | exact Ne.symm (by assumption) | omega) only [hol, hF1, ↓ZD, ZW, simprocAttr]
 refine NewB.of fun b2 hb2 hF2 => ?_
 simp only [List.forall_mem_cons, List.not_mem_nil, false_implies, implies_true, and_true] at hb2
 simp (disch := first | assumption | exact Ne.symm (by assumption) | omega) only [hol, hF1, hF2, ↓ZD, ZW, simprocAttr]
 refine CallE.pure (rword_pure F hW p) ?_
 simp (disch := first | assumption | exact Ne.symm (by assumption) | omega) only [hol, hF1, hF2, wdV, ↓ZD, ZW, simprocAttr]
 refine NewB.of fun b3 hb3 hF3 => ?_
 simp only [List.forall_mem_cons, List.not_mem_nil, false_implies, implies_true, and_true] at hb3
 obtain ⟨n23, n13⟩ := hb3
 simp (disch := first | assumption | exact Ne.symm (by assumption) | omega) only [hol, hF1, hF2, hF3, wdV, ↓ZD, ZW, simprocAttr]
 unfold takeS
 by_cases h : p.e = 0 ∧ wk ws p = k
 ·have h1 : (p.e != 0) = false := by simpa using h.1
  have h2 : ((((wdAt ws p.p).1.1 : Nat) : Int) != k) = false := by simpa [wk] using h.2
  have hr := in_range (ws := ws) (p := p.p) (by have := h.2; unfold wk at this; omega)
  have hw1 : IntKind.i64.wrap (p.p + 1) = p.p + 1 := by rw [wrap_i64]; omega
  rw [if_pos h]
  simp (disch := first | assumption | exact Ne.symm (by assumption) | omega) only [hol, hF1, hF2, hF3, h1, h2, hw1, adv, ↓ZD, ZW, simprocAttr]
  refine TreeL.open ?_
  simp (disch := first | assumption | exact Ne.symm (by assumption) | omega) only [hol, hF1, hF2, hF3, h1, h2, hw1, adv, wtx, ↓ZD, ZW, simprocAttr]
 ·have h1 : (p.e != 0 || (((wdAt ws p.p).1.1 : Nat) : Int) != k) = true := by
   rw [Bool.or_eq_true, bne_iff_ne, bne_iff_ne]
   by_cases h3 : p.e = 0
   ·exact .inr fun h4 => h ⟨h3, h4⟩
   ·exact .inl h3
  rw [if_neg h]
  simp (disch := first | assumption | exact Ne.symm (by assumption) | omega) only [hol, hF1, hF2, hF3, h1, ↓ZD, ZW, simprocAttr]
  refine CallE.pure (rfail_pure F hW p 10) ?_
  simp (disch := first | assumption | exact Ne.symm (by assumption) | omega) only [hol, hF1, hF2, hF3, ↓ZD, ZW, simprocAttr]
theorem rbehind_pure (F : Base) {ws : Ws} {l : Value} (hW : HasW F ws l) (p : St) (hp : 0 ≤ p.p ∧ p.p < ws.length) : PureV Tryz.prog F 124 #[PV l p] (.agg (wdV (wdAt ws (p.p + 1)).1 (wdAt ws (p.p + 1)).2).toArray) := by
 have hol := hW.one'
 have hlen := hW.len
 have hw1 : IntKind.i64.wrap (p.p + 1) = p.p + 1 := by rw [wrap_i64]; omega
 refine pureV_of_svc (args := [PV _ p]) mixed Tryz.func124 low124 (Nat.le_of_ble_eq_true rfl) (fun w0 => ?_)
 simp (disch := first | assumption | exact Ne.symm (by assumption) | omega) only [fu124, ↓ZD, ZW, simprocAttr]
 refine NewB.of fun b1 hb1 hF1 => ?_
 simp (disch := first | assumption | exact Ne.symm (by assumption) | omega) only [hol, hF1, ↓ZD, ZW, simprocAttr]
 refine NewB.of fun b2 hb2 hF2 => ?_
 simp only [List.forall_mem_cons, List.not_mem_nil, false_implies, implies_true, and_true] at hb2
 simp (disch := first | assumption | exact Ne.symm (by assumption) | omega) only [hol, hF1, hF2, hw1, ↓ZD, ZW, simprocAttr]
 refine CallE.pure (rword_pure F hW (adv p)) ?_
 simp (disch := first | assumption | exact Ne.symm (by assumption) | omega) only [hol, hF1, hF2, hw1, wdV, adv, ↓ZD, ZW, simprocAttr]
theorem rOwn_pure (F : Base) (s : Str) : PureV Tryz.prog F 91 #[.string (bs s)] (.bool (decide (s ∈ ownL))) := by
 refine pureV_of_svc mixed Tryz.func91 low91 (Nat.le_of_ble_eq_true rfl) (fun w0 => ?_)
 simp (disch := first | assumption | exact Ne.symm (by assumption) | omega) only [fu91, ↓ZD, ZW, simprocAttr]
 have key : decide (s ∈ ownL) = (s == [105, 102] || s == [116, 104, 101, 110] || s == [101, 108, 115, 101] || s == [116, 114, 117, 101] || s == [102, 97, 108, 115, 101] || s == [105, 110] || s == [104, 97, 115] || s == [105, 115]) := by rw [Bool.eq_iff_iff]; simp [ownL, Bool.or_eq_true, or_assoc]
 refine ⟨fun h => ⟨fun _ => by rw [key, h]; simp, fun h2 => by rw [h] at h2; cases h2⟩, fun h0 => ?_⟩
 refine ⟨fun h => ⟨fun _ => by rw [key, h]; simp, fun h2 => by rw [h] at h2; cases h2⟩, fun h1 => ?_⟩
 refine ⟨fun h => ⟨fun _ => by rw [key, h]; simp, fun h2 => by rw [h] at h2; cases h2⟩, fun h2 => ?_⟩
 refine ⟨fun h => ⟨fun _ => by rw [key, h]; simp, fun h2 => by rw [h] at h2; cases h2⟩, fun h3 => ?_⟩
 refine ⟨fun h => ⟨fun _ => by rw [key, h]; simp, fun h2 => by rw [h] at h2; cases h2⟩, fun h4 => ?_⟩
 refine ⟨fun h => ⟨fun _ => by rw [key, h]; simp, fun h2 => by rw [h] at h2; cases h2⟩, fun h5 => ?_⟩
 refine ⟨fun h => ⟨fun _ => by rw [key, h]; simp, fun h2 => by rw [h] at h2; cases h2⟩, fun h6 => ?_⟩
 refine ⟨fun h => by rw [key, h]; simp, fun h7 => ?_⟩
 rw [key, h0, h1, h2, h3, h4, h5, h6, h7]; rfl
theorem rpair_does (F : Base) (op : Int) (a c : List Value) (ha : a.length = 12) (hc : c.length = 12) : Does Tryz.prog F 95 #[.int .i64 op, .agg a.toArray, .agg c.toArray] [] (fun r H' => ∃ bk, r = .agg (xcells op lv0 (.slice none 0 0) (.slice none 0 0) [] (.slice (some ⟨bk, 0, none⟩) 2 2) (.slice none 0 0)).toArray ∧ H' = [(bk, .cells (a ++ c).toArray 39 (0, 0))]) := by
 refine Does.shr (K := fun r H' => ∃ bk, r = .agg (xcells op lv0 (.slice none 0 0) (.slice none 0 0) [] (.slice (some ⟨bk, 0, none⟩) 2 2) (.slice none 0 0)).toArray ∧ (bk, .cells (a ++ c).toArray 39 (0, 0)) ∈ H') ?_ fun r H' ⟨bk, h1, h2⟩ => ⟨[_], by simpa using h2, bk, h1, rfl⟩
 refine does_of_svc (args := [.int .i64 op, .agg a.toArray, .agg c.toArray]) mixed Tryz.func95 low95 (Nat.le_of_ble_eq_true rfl) (fun w0 hw0 => ?_)
 have t1 : ∀ r, (a ++ r).take 12 = a := fun r => List.take_left' ha
 have t0 : a.take 12 = a := List.take_of_length_le (Nat.le_of_eq ha)
 have t2 : c.take 12 = c := List.take_of_length_le (Nat.le_of_eq hc)
 simp (disch := first | assumption | exact Ne.symm (by assumption) | omega) only [fu95, ha, hc, t0, t2, ↓ZD, ZW, simprocAttr]
 refine NewB.of fun b1 hb1 hF1 => ?_
 simp (disch := first | assumption | exact Ne.symm (by assumption) | omega) only [hF1, ha, hc, t0, t2, ↓ZD, ZW, simprocAttr]
 refine NewB.of fun b2 hb2 hF2 => ?_
 simp only [List.forall_mem_cons, List.not_mem_nil, false_implies, implies_true, and_true] at hb2
 simp (disch := first | assumption | exact Ne.symm (by assumption) | omega) only [hF1, hF2, ha, hc, t0, t2, ↓ZD, ZW, simprocAttr]
 refine NewB.of fun b3 hb3 hF3 => ?_
 simp only [List.forall_mem_cons, List.not_mem_nil, false_implies, implies_true, and_true] at hb3
 obtain ⟨hb31, hb32⟩ := hb3
 have d2 : List.drop 24 (a ++ [Value.int IntKind.i64 0, Value.int IntKind.i64 0, Value.bool false, Value.int IntKind.i64 0, Value.string (bs []), Value.string (bs []), Value.string (bs []), Value.slice none 0 0, Value.slice none 0 0, Value.string (bs []), Value.slice none 0 0, Value.slice none 0 0]) = [] := List.drop_eq_nil_of_le (by simp [ha])
 simp (disch := first | assumption | exact Ne.symm (by assumption) | omega) only [hF1, hF2, hF3, ha, hc, t0, t1, t2, d2, ↓ZD, ZW, simprocAttr]
 refine NewB.of fun b4 hb4 hF4 => ?_
 simp only [List.forall_mem_cons, List.not_mem_nil, false_implies, implies_true, and_true] at hb4
 obtain ⟨hb41, hb42, hb43⟩ := hb4
 simp (disch := first | assumption | exact Ne.symm (by assumption) | omega) only [hF1, hF2, hF3, hF4, ha, hc, t0, t1, t2, ↓ZD, ZW, simprocAttr]
 exact ⟨b4, rfl, List.mem_cons_self⟩
theorem ralone_does (F : Base) (op : Int) (a : List Value) (ha : a.length = 12) : Does Tryz.prog F 117 #[.int .i64 op, .agg a.toArray] [] (fun r H' => ∃ bk, r = .agg (xcells op lv0 (.slice none 0 0) (.slice none 0 0) [] (.slice (some ⟨bk, 0, none⟩) 1 1) (.slice none 0 0)).toArray ∧ H' = [(bk, .cells a.toArray 39 (0, 0))]) := by
 refine Does.shr (K := fun r H' => ∃ bk, r = .agg (xcells op lv0 (.slice none 0 0) (.slice none 0 0) [] (.slice (some ⟨bk, 0, none⟩) 1 1) (.slice none 0 0)).toArray ∧ (bk, .cells a.toArray 39 (0, 0)) ∈ H') ?_ fun r H' ⟨bk, h1, h2⟩ => ⟨[_], by simpa using h2, bk, h1, rfl⟩
 refine does_of_svc (args := [.int .i64 op, .agg a.toArray]) mixed Tryz.func117 low117 (Nat.le_of_ble_eq_true rfl) (fun w0 hw0 => ?_)
 have t0 : a.take 12 = a := List.take_of_length_le (Nat.le_of_eq ha)
 simp (disch := first | assumption | exact Ne.symm (by assumption) | omega) only [fu117, ha, t0, ↓ZD, ZW, simprocAttr]
 refine NewB.of fun b1 hb1 hF1 => ?_
 simp (disch := first | assumption | exact Ne.symm (by assumption) | omega) only [hF1, ha, t0, ↓ZD, ZW, simprocAttr]
 refine NewB.of fun b2 hb2 hF2 => ?_
 simp only [List.forall_mem_cons, List.not_mem_nil, false_implies, implies_true, and_true] at hb2
 simp (disch := first | assumption | exact Ne.symm (by assumption) | omega) only [hF1, hF2, ha, t0, ↓ZD, ZW, simprocAttr]
 refine NewB.of fun b3 hb3 hF3 => ?_
 simp only [List.forall_mem_cons, List.not_mem_nil, false_implies, implies_true, and_true] at hb3
 obtain ⟨hb31, hb32⟩ := hb3
 simp (disch := first | assumption | exact Ne.symm (by assumption) | omega) only [hF1, hF2, hF3, ha, t0, ↓ZD, ZW, simprocAttr]
 exact ⟨b3, rfl, List.mem_cons_self⟩
def downS (ws : Ws) (p : St) : St := ⟨(if 50 ≤ p.deep then failS ws p 11 else p).p, IntKind.i64.wrap ((if 50 ≤ p.deep then failS ws p 11 else p).deep + 1), (if 50 ≤ p.deep then failS ws p 11 else p).e, (if 50 ≤ p.deep then failS ws p 11 else p).bad⟩
theorem rdown_pure (F : Base) {ws : Ws} {l : Value} (hW : HasW F ws l) (p : St) : PureV Tryz.prog F 73 #[PV l p] (PV l (downS ws p)) := by
 have hol := hW.one'
 refine pureV_of_svc (args := [PV _ p]) mixed Tryz.func73 low73 (Nat.le_of_ble_eq_true rfl) (fun w0 => ?_)
 simp (disch := first | assumption | exact Ne.symm (by assumption) | omega) only [fu73, ↓ZD, ZW, simprocAttr]
 refine NewB.of fun b1 hb1 hF1 => ?_
 simp (disch := first | assumption | exact Ne.symm (by assumption) | omega) only [hol, hF1, ↓ZD, ZW, simprocAttr]
 refine NewB.of fun b2 hb2 hF2 => ?_
 simp only [List.forall_mem_cons, List.not_mem_nil, false_implies, implies_true, and_true] at hb2
 simp (disch := first | assumption | exact Ne.symm (by assumption) | omega) only [hol, hF1, hF2, ↓ZD, ZW, simprocAttr]
 unfold downS
 by_cases h : 50 ≤ p.deep
 ·have hd : decide (50 ≤ p.deep) = true := decide_eq_true h
  rw [if_pos h]
  simp (disch := first | assumption | exact Ne.symm (by assumption) | omega) only [hol, hF1, hF2, hd, ↓ZD, ZW, simprocAttr]
  refine CallE.pure (rfail_pure F hW p 11) ?_
  simp (disch := first | assumption | exact Ne.symm (by assumption) | omega) only [hol, hF1, hF2, ↓ZD, ZW, simprocAttr]
 ·have hd : decide (50 ≤ p.deep) = false := decide_eq_false h
  rw [if_neg h]
  simp (disch := first | assumption | exact Ne.symm (by assumption) | omega) only [hol, hF1, hF2, hd, ↓ZD, ZW, simprocAttr]
end Go.Proofs.YtnenbihkcjgddaaGreatDoor
namespace Go.Proofs.YtnenbihkcjgddaaGreatDoor
open Go Go.Eng
set_option maxHeartbeats 1000000
set_option linter.unusedSimpArgs false
set_option linter.unusedVariables false
set_option maxRecDepth 20000
def RPost (F : Base) (l : Value) (x : Ex') (s' : St) (r : Value) (H' : Hp) : Prop := ∃ (p' : St) (cs : List Value), Agr p' s' ∧ r = .tuple #[PV l p', .agg cs.toArray] ∧ Ok12 cs ∧ (s'.e = 0 → RepP (rdObj F H') cs x) ∧ Wk H'
def RFin (F : Base) (l : Value) (x : Ex') (s' : St) (r : Value) (H : Hp) : Prop := ∃ (p' : St) (cs : List Value) (Hx : Hp), Agr p' s' ∧ r = .tuple #[PV l p', .agg cs.toArray] ∧ Ok12 cs ∧ (s'.e = 0 → RepP (rdObj F Hx) cs x) ∧ Wk Hx ∧ ∀ e ∈ Hx, e ∈ H
theorem Does.rfin {F : Base} {l : Value} {f : Nat} {args : Array Value} {x : Ex'} {s' : St} (h : Does Tryz.prog F f args [] (RFin F l x s')) : Does Tryz.prog F f args [] (RPost F l x s') :=
 h.shr fun v H' ⟨p', cs, Hx, h1, h2, h3, h4, h5, h6⟩ => ⟨Hx, h6, p', cs, h1, h2, h3, h4, h5⟩
def RPrs (F : Base) (l : Value) (f : Nat) (args : List Value) (R : St → Option (Ex' × St)) : Prop := ∀ F' : Base, (∀ b o, F b = some o → F' b = some o) → ∀ (p s : St) (x : Ex') (s' : St), Agr p s → Good s → R s = some (x, s') →
 Does Tryz.prog F' f (PV l p :: args).toArray [] (RPost F' l x s')
theorem RPrs.mono {F F' : Base} {l : Value} {f : Nat} {args : List Value} {R : St → Option (Ex' × St)} (h : RPrs F l f args R) (hF : ∀ b o, F b = some o → F' b = some o) : RPrs F' l f args R := fun F2 h2 => h F2 fun b o hb => h2 b o (hF b o hb)
theorem RPrs.weak {F : Base} {l : Value} {f : Nat} {args : List Value} {R R' : St → Option (Ex' × St)} (h : RPrs F l f args R) (hR : ∀ s y, R' s = some y → R s = some y) : RPrs F l f args R' :=
 fun F' hF p s x s' hA hg h' => h F' hF p s x s' hA hg (hR s (x, s') h')
theorem rdObj_tail {F : Base} {G : Hp} {bk : Nat} {ob : Obj} {b : Nat} {o : Obj} (h : rdObj F ((bk, ob) :: G) b = some o) (hn : ∀ e ∈ G, e.1 ≠ bk) : rdObj F (G ++ [(bk, ob)]) b = some o := by
 unfold rdObj at *
 cases hF : F b with
 | some o2 => simpa [hF] using h
 | none =>
  simp only [hF] at h ⊢
  rw [lk_append]
  simp only [lk] at h ⊢
  split at h
  ·rename_i e
   subst e
   rw [lk_none hn]
   simpa using h
  ·rw [h]
section
variable {X : List Nat} {F : Base} {w0 : World} {H : Hp} {K : Value → Hp → Prop} {Hl G : Hp}
theorem CallE.rqd {l : Value} {f : Nat} {args : Array Value} {x : Ex'} {s' : St} [tl : Tl H Hl G] (h : Does Tryz.prog F f args [] (RPost F l x s')) (sd : Dj Hl G ∧ Wk G)
  (hk : ∀ p' cs G', Agr p' s' → (s'.e = 0 → RepP (rdObj F G') cs x) → Ok12 cs ∧ Dj Hl G' ∧ (∀ b o, rdObj F G b = some o → rdObj F G' b = some o) ∧ Wk G' → K (.tuple #[PV l p', .agg cs.toArray]) (Hl ++ G')) :
  @CallE Tryz.prog X F w0 f args H ⟨K⟩ := by
 obtain rfl := tl.eq
 refine CallG.frame (F1 := F) (H0 := []) (Hr := Hl ++ G) h le_up (fun e h => by cases h) (fun e h => h) (fun e' _ e h => by cases h) fun v H' ⟨p', cs, k1, k2, k3, k4, kw⟩ _ d2 _ => ?_
 rw [k2, List.append_assoc]
 have d3 : ∀ e ∈ G, ∀ e' ∈ H', e'.1 ≠ e.1 := fun e he e' he' => d2 e (List.mem_append_right _ he) e' he'
 exact hk p' cs (G ++ H') k1 (fun he => (k4 he).mono fun _ _ => rdObj_r d3) ⟨k3, sd.1.app (Dj.iff.2 fun e he e' he' => d2 e (List.mem_append_left _ he) e' he'), fun _ _ => rdObj_app1, sd.2.app kw d3⟩
theorem CallE.rq {l : Value} {f : Nat} {args : List Value} {R : St → Option (Ex' × St)} {p s : St} {x : Ex'} {s' : St} [tl : Tl H Hl G] (h : RPrs F l f args R) (hA : Agr p s) (hd : Good s) (hR : R s = some (x, s')) (sd : Dj Hl G ∧ Wk G)
  (hk : ∀ p' cs G', Agr p' s' → (s'.e = 0 → RepP (rdObj F G') cs x) → Ok12 cs ∧ Dj Hl G' ∧ (∀ b o, rdObj F G b = some o → rdObj F G' b = some o) ∧ Wk G' → K (.tuple #[PV l p', .agg cs.toArray]) (Hl ++ G')) :
  @CallE Tryz.prog X F w0 f (PV l p :: args).toArray H ⟨K⟩ := CallE.rqd (h F (fun _ _ h => h) p s x s' hA hd hR) sd hk
theorem mk_two {op : Int} {a c : List Value} {x y : Ex'} {P : Prop} (hop : I64 op) (ra : P → RepP (rdObj F G) a x) (rc : P → RepP (rdObj F G) c y) (sd : Dj Hl G ∧ Wk G)
  (hk : ∀ cs G', (P → RepP (rdObj F G') cs (twoX op x y)) → Ok12 cs ∧ Dj Hl G' ∧ (∀ b o, rdObj F G b = some o → rdObj F G' b = some o) ∧ Wk G' → K (.agg cs.toArray) (Hl ++ G')) {bk : Nat} (hF : F bk = none) (hb : ∀ e ∈ Hl ++ G, e.1 ≠ bk) :
  K (.agg (xcells op lv0 (.slice none 0 0) (.slice none 0 0) [] (.slice (some ⟨bk, 0, none⟩) 2 2) (.slice none 0 0)).toArray) (Hl ++ G ++ [(bk, .cells (a ++ c).toArray 39 (0, 0))]) := by
 have hn : Nb bk G := Nb.of fun e he => hb e (List.mem_append_right _ he)
 rw [List.append_assoc]
 exact hk _ _ (fun hP => RepP.mono (fun b o h => rdObj_tail h hn.all) (rep_two (T := 39) hF hn hop (ra hP) (rc hP))) ⟨⟨rfl, rfl, rfl, rfl⟩, sd.1.app (Dj.iff.2 fun e he e' he' => by rw [List.mem_singleton.1 he']; exact (hb e (List.mem_append_left _ he)).symm), fun _ _ => rdObj_app1, sd.2.app (Wk.cb Wk.nil trivial) fun e he e' he' => by rw [List.mem_singleton.1 he']; exact (hn.all e he).symm⟩
theorem mk_one {op : Int} {a : List Value} {x : Ex'} {P : Prop} (hop : I64 op) (ra : P → RepP (rdObj F G) a x) (sd : Dj Hl G ∧ Wk G)
  (hk : ∀ cs G', (P → RepP (rdObj F G') cs (oneX' op [] x)) → Ok12 cs ∧ Dj Hl G' ∧ (∀ b o, rdObj F G b = some o → rdObj F G' b = some o) ∧ Wk G' → K (.agg cs.toArray) (Hl ++ G')) {bk : Nat} (hF : F bk = none) (hb : ∀ e ∈ Hl ++ G, e.1 ≠ bk) :
  K (.agg (xcells op lv0 (.slice none 0 0) (.slice none 0 0) [] (.slice (some ⟨bk, 0, none⟩) 1 1) (.slice none 0 0)).toArray) (Hl ++ G ++ [(bk, .cells a.toArray 39 (0, 0))]) := by
 have hn : Nb bk G := Nb.of fun e he => hb e (List.mem_append_right _ he)
 rw [List.append_assoc]
 exact hk _ _ (fun hP => RepP.mono (fun b o h => rdObj_tail h hn.all) (rep_one (T := 39) hF hn hop (ra hP))) ⟨⟨rfl, rfl, rfl, rfl⟩, sd.1.app (Dj.iff.2 fun e he e' he' => by rw [List.mem_singleton.1 he']; exact (hb e (List.mem_append_left _ he)).symm), fun _ _ => rdObj_app1, sd.2.app (Wk.cb Wk.nil trivial) fun e he e' he' => by rw [List.mem_singleton.1 he']; exact (hn.all e he).symm⟩
theorem CallE.pair {op : Int} {a c : List Value} {x y : Ex'} {P : Prop} [tl : Tl H Hl G] (hop : I64 op) (ra : P → RepP (rdObj F G) a x) (rc : P → RepP (rdObj F G) c y) (ha : Ok12 a) (hc : Ok12 c) (sd : Dj Hl G ∧ Wk G)
  (hk : ∀ cs G', (P → RepP (rdObj F G') cs (twoX op x y)) → Ok12 cs ∧ Dj Hl G' ∧ (∀ b o, rdObj F G b = some o → rdObj F G' b = some o) ∧ Wk G' → K (.agg cs.toArray) (Hl ++ G')) :
  @CallE Tryz.prog X F w0 95 #[.int .i64 op, .agg a.toArray, .agg c.toArray] H ⟨K⟩ := by
 obtain rfl := tl.eq
 refine CallE.news (rpair_does (rdObj F (Hl ++ G)) op a c ha.1 hc.1) ?_
 rintro v H' ⟨bk, rfl, rfl⟩ h2 h3 _
 exact mk_two hop ra rc sd hk (h2 _ (List.mem_singleton.2 rfl)) fun e he => (h3 e he _ (List.mem_singleton.2 rfl)).symm
theorem CallE.alone {op : Int} {a : List Value} {x : Ex'} {P : Prop} [tl : Tl H Hl G] (hop : I64 op) (ra : P → RepP (rdObj F G) a x) (ha : Ok12 a) (sd : Dj Hl G ∧ Wk G)
  (hk : ∀ cs G', (P → RepP (rdObj F G') cs (oneX' op [] x)) → Ok12 cs ∧ Dj Hl G' ∧ (∀ b o, rdObj F G b = some o → rdObj F G' b = some o) ∧ Wk G' → K (.agg cs.toArray) (Hl ++ G')) :
  @CallE Tryz.prog X F w0 117 #[.int .i64 op, .agg a.toArray] H ⟨K⟩ := by
 obtain rfl := tl.eq
 refine CallE.news (ralone_does (rdObj F (Hl ++ G)) op a ha.1) ?_
 rintro v H' ⟨bk, rfl, rfl⟩ h2 h3 _
 exact mk_one hop ra sd hk (h2 _ (List.mem_singleton.2 rfl)) fun e he => (h3 e he _ (List.mem_singleton.2 rfl)).symm
theorem CallN.pair {op : Int} {a c : List Value} {x y : Ex'} {P : Prop} [tl : Tl H Hl G] (hop : I64 op) (ra : P → RepP (rdObj F G) a x) (rc : P → RepP (rdObj F G) c y) (ha : Ok12 a) (hc : Ok12 c) (sd : Dj Hl G ∧ Wk G)
  (hk : ∀ cs G', (P → RepP (rdObj F G') cs (twoX op x y)) → Ok12 cs ∧ Dj Hl G' ∧ (∀ b o, rdObj F G b = some o → rdObj F G' b = some o) ∧ Wk G' → K (.agg cs.toArray) (Hl ++ G')) :
  @CallN Tryz.prog X F w0 95 #[.int .i64 op, .agg a.toArray, .agg c.toArray] H ⟨K⟩ := by
 obtain rfl := tl.eq
 refine CallN.news (rpair_does (rdObj F (Hl ++ G)) op a c ha.1 hc.1) ?_
 rintro v H' ⟨bk, rfl, rfl⟩ h2 h3 _
 exact mk_two hop ra rc sd hk (h2 _ (List.mem_singleton.2 rfl)) fun e he => (h3 e he _ (List.mem_singleton.2 rfl)).symm
theorem CallN.alone {op : Int} {a : List Value} {x : Ex'} {P : Prop} [tl : Tl H Hl G] (hop : I64 op) (ra : P → RepP (rdObj F G) a x) (ha : Ok12 a) (sd : Dj Hl G ∧ Wk G)
  (hk : ∀ cs G', (P → RepP (rdObj F G') cs (oneX' op [] x)) → Ok12 cs ∧ Dj Hl G' ∧ (∀ b o, rdObj F G b = some o → rdObj F G' b = some o) ∧ Wk G' → K (.agg cs.toArray) (Hl ++ G')) :
  @CallN Tryz.prog X F w0 117 #[.int .i64 op, .agg a.toArray] H ⟨K⟩ := by
 obtain rfl := tl.eq
 refine CallN.news (ralone_does (rdObj F (Hl ++ G)) op a ha.1) ?_
 rintro v H' ⟨bk, rfl, rfl⟩ h2 h3 _
 exact mk_one hop ra sd hk (h2 _ (List.mem_singleton.2 rfl)) fun e he => (h3 e he _ (List.mem_singleton.2 rfl)).symm
end
theorem RFin.m {F : Base} {l : Value} {p' s' : St} {x : Ex'} {cs : List Value} {H : Hp} (Hx : Hp) (hA : Agr p' s') (hc : Ok12 cs) (hr : s'.e = 0 → RepP (rdObj F Hx) cs x) (w : Wk Hx) (hs : ∀ e ∈ Hx, e ∈ H) : RFin F l x s' (.tuple #[PV l p', .agg cs.toArray]) H := ⟨p', cs, Hx, hA, rfl, hc, hr, w, hs⟩
theorem RFin.g {F : Base} {l : Value} {p' s' : St} {x : Ex'} {cs : List Value} {H Hl G : Hp} [tl : Tl H Hl G] (hA : Agr p' s') (hc : Ok12 cs) (hr : s'.e = 0 → RepP (rdObj F G) cs x) (w : Wk G) : RFin F l x s' (.tuple #[PV l p', .agg cs.toArray]) H := .m G hA hc hr w fun e he => by rw [tl.eq]; exact List.mem_append_right _ he
theorem downS_agr {ws : Ws} {p s : St} (h : Agr p s) (hg : Good s) : Agr (downS ws p) (if 50 ≤ s.deep then failS ws s 11 else inn s) := by
 unfold downS
 by_cases he : s.e = 0
 ·obtain rfl := h.ok he
  have := hg he
  by_cases hd : 50 ≤ p.deep
  ·rw [if_pos hd, if_pos hd]; exact .inr ⟨failS_e (by decide), rfl, rfl⟩
  ·rw [if_neg hd, if_neg hd]
   refine .inl ?_
   unfold inn
   congr 1
   rw [wrap_i64]; omega
 ·have e1 : (if 50 ≤ p.deep then failS ws p 11 else p) = p := by split; exact failS_err (by rw [h.e]; exact he); rfl
  have e2 : (if 50 ≤ s.deep then failS ws s 11 else inn s).e = s.e ∧ (if 50 ≤ s.deep then failS ws s 11 else inn s).bad = s.bad := by
   split
   ·rw [failS_err he]; exact ⟨rfl, rfl⟩
   ·exact ⟨rfl, rfl⟩
  rw [e1]
  exact .inr ⟨by rw [e2.1]; exact he, by rw [e2.1]; exact h.e, by rw [e2.2]; exact h.bad⟩
theorem rUid_pure (F : Base) {ws : Ws} (hws : WsOk ws) {l : Value} (hW : HasW F ws l) (p : St) (hp : PureV Tryz.prog F 115 #[PV l p] (.tuple #[PV l (pathS ws p).2, .string (bs (pathS ws p).1)])) :
  PureV Tryz.prog F 104 #[PV l p] (.tuple #[PV l (uidS ws p).2, .agg #[.string (bs (uidS ws p).1.1), .string (bs (uidS ws p).1.2)]]) := by
 have hol := hW.one'
 refine pureV_of_svc (args := [PV _ p]) mixed Tryz.func104 low104 (Nat.le_of_ble_eq_true rfl) (fun w0 => ?_)
 unfold uidS
 simp (disch := first | assumption | exact Ne.symm (by assumption) | omega) only [fu104, hol, ↓ZD, ZW, simprocAttr]
 refine NewB.of fun b1 hb1 hF1 => ?_
 simp (disch := first | assumption | exact Ne.symm (by assumption) | omega) only [hF1, hol, ↓ZD, ZW, simprocAttr]
 refine NewB.of fun b2 hb2 hF2 => ?_
 simp only [List.forall_mem_cons, List.not_mem_nil, false_implies, implies_true, and_true] at hb2
 simp (disch := first | assumption | exact Ne.symm (by assumption) | omega) only [hF1, hF2, hol, ↓ZD, ZW, simprocAttr]
 refine NewB.of fun b3 hb3 hF3 => ?_
 simp only [List.forall_mem_cons, List.not_mem_nil, false_implies, implies_true, and_true] at hb3
 obtain ⟨n23, n13⟩ := hb3
 simp (disch := first | assumption | exact Ne.symm (by assumption) | omega) only [hF1, hF2, hF3, hol, ↓ZD, ZW, simprocAttr]
 refine CallE.pure hp ?_
 simp (disch := first | assumption | exact Ne.symm (by assumption) | omega) only [hF1, hF2, hF3, hol, ↓ZD, ZW, simprocAttr]
 refine CallE.pure (rmust_pure F hW (pathS ws p).2 [58, 58]) ?_
 simp (disch := first | assumption | exact Ne.symm (by assumption) | omega) only [hF1, hF2, hF3, hol, ↓ZD, ZW, simprocAttr]
 refine CallE.pure (rtake_pure F hW (mustS ws (pathS ws p).2 [58, 58]) 3 (by decide)) ?_
 simp (disch := first | assumption | exact Ne.symm (by assumption) | omega) only [hF1, hF2, hF3, hol, ↓ZD, ZW, simprocAttr]
 done
end Go.Proofs.YtnenbihkcjgddaaGreatDoor
namespace Go.Proofs.YtnenbihkcjgddaaGreatDoor
open Go Go.Eng
set_option maxHeartbeats 1000000
set_option linter.unusedSimpArgs false
set_option linter.unusedVariables false
set_option maxRecDepth 20000
theorem rpath_pure (F : Base) {ws : Ws} (hws : WsOk ws) {l : Value} (hW : HasW F ws l) (p : St) : PureV Tryz.prog F 115 #[PV l p] (.tuple #[PV l (pathS ws p).2, .string (bs (pathS ws p).1)]) := by
 have hol := hW.one'
 have hlen := hW.len
 refine pureV_of_svc (args := [PV _ p]) mixed Tryz.func115 low115 (Nat.le_of_ble_eq_true rfl) (fun w0 => ?_)
 simp (disch := first | assumption | exact Ne.symm (by assumption) | omega) only [fu115, hol, ↓ZD, ZW, simprocAttr]
 refine NewB.of fun b1 hb1 hF1 => ?_
 simp (disch := first | assumption | exact Ne.symm (by assumption) | omega) only [hF1, hol, ↓ZD, ZW, simprocAttr]
 refine NewB.of fun b2 hb2 hF2 => ?_
 simp only [List.forall_mem_cons, List.not_mem_nil, false_implies, implies_true, and_true] at hb2
 simp (disch := first | assumption | exact Ne.symm (by assumption) | omega) only [hF1, hF2, hol, ↓ZD, ZW, simprocAttr]
 refine CallE.pure (rword_pure F hW p) ?_
 simp (disch := first | assumption | exact Ne.symm (by assumption) | omega) only [hF1, hF2, hol, wf1, wsz, ↓ZD, ZW, simprocAttr]
 refine CallE.pure (rOwn_pure F _) ?_
 simp (disch := first | assumption | exact Ne.symm (by assumption) | omega) only [hF1, hF2, hol, ↓ZD, ZW, simprocAttr]
 refine ⟨fun h => ?_, fun h => ?_⟩
 ·refine CallE.pure (rfail_pure F hW p 10) ?_
  simp (disch := first | assumption | exact Ne.symm (by assumption) | omega) only [hF1, hF2, hol, ↓ZD, ZW, simprocAttr]
  have hq : (if wtx ws p ∈ ownL then failS ws p 10 else p) = failS ws p 10 := if_pos (of_decide_eq_true h)
  refine CallE.pure (rtake_pure F hW (failS ws p 10) 1 (by decide)) ?_
  simp (disch := first | assumption | exact Ne.symm (by assumption) | omega) only [hF1, hF2, hol, ↓ZD, ZW, simprocAttr]
  rw [show pathS ws p = pathT ws (takeS ws (failS ws p 10) 1) from by unfold pathS; rw [hq]]
  have hI0 := pathI0 hws (failS ws p 10)
  revert hI0
  generalize pathT ws (takeS ws (failS ws p 10) 1) = X
  generalize (takeS ws (failS ws p 10) 1).1 = o0
  generalize (takeS ws (failS ws p 10) 1).2 = q0
  intro hI0
  refine LoopL.inv (α := St × Str) (PathI ws X) (fun y => [(1, some (.pointer (some ⟨b1, 0, none⟩))), (2, some (.pointer (some ⟨b2, 0, none⟩))), (4, some (.string (bs y.2)))]) (fun y => [(b2, .cells #[Value.slice none 0 0, Value.int IntKind.i64 0, Value.int IntKind.i64 0, Value.int IntKind.i64 0, Value.int IntKind.i64 0] 70 (0, 0)), (b1, .cells #[l, .int .i64 y.1.p, .int .i64 y.1.deep, .int .i64 y.1.e, .int .i64 y.1.bad] 70 (0, 0))]) (fun y => ws.length - y.1.p.toNat) (q0, o0) hI0 (by (simp (disch := first | assumption | exact Ne.symm (by assumption) | omega) only [↓ZD, ZW, simprocAttr]; try trivial)) (by (try (simp (disch := first | assumption | exact Ne.symm (by assumption) | omega) only [↓ZD, ZW, simprocAttr]); try trivial)) ?_
  rintro ⟨q, o⟩ hI
  unfold PathI at hI
  dsimp only at hI
  rcases hI with ⟨he, hX⟩ | ⟨he, h0, h1, ho, hX⟩
  ·have hd : (q.e == 0) = false := by simpa using he
   subst hX
   simp (disch := first | assumption | exact Ne.symm (by assumption) | omega) only [hd, hF1, hF2, hol, ↓ZD, ZW, simprocAttr]
   refine CallQ.of (.bool false) trivial ?_
   simp (disch := first | assumption | exact Ne.symm (by assumption) | omega) only [hd, hF1, hF2, hol, ↓ZD, ZW, simprocAttr]
   refine CallQ.of (.agg (wdV (wdAt ws 0).1 (wdAt ws 0).2).toArray) trivial ?_
   simp (disch := first | assumption | exact Ne.symm (by assumption) | omega) only [hd, hF1, hF2, hol, wf0, wsz, ↓ZD, ZW, simprocAttr]
  ·have hd : (q.e == 0) = true := by simpa using he
   obtain ⟨j, hj⟩ : ∃ j : Nat, q.p = j := ⟨q.p.toNat, by omega⟩
   have hj2 : q.p.toNat = j := by omega
   rw [hj2] at hX
   simp (disch := first | assumption | exact Ne.symm (by assumption) | omega) only [hd, hF1, hF2, hol, ↓ZD, ZW, simprocAttr]
   refine CallQ.of _ (rIs_pure _ (hW.mono le_up) q [58, 58]) ?_
   cases hi : isS ws q [58, 58] with
   | false =>
    rw [path_no hj2 (.inl ⟨he, h0, hi⟩)] at hX
    subst hX
    simp (disch := first | assumption | exact Ne.symm (by assumption) | omega) only [hd, hF1, hF2, hol, hi, ↓ZD, ZW, simprocAttr]
    refine CallQ.of (.agg (wdV (wdAt ws 0).1 (wdAt ws 0).2).toArray) trivial ?_
    simp (disch := first | assumption | exact Ne.symm (by assumption) | omega) only [hd, hF1, hF2, hol, hi, wf0, wsz, List.append_nil, Int.add_zero, Int.cast_ofNat_Int, ↓ZD, ZW, simprocAttr]
   | true =>
    have hr := isS_range hi
    have hw1 : IntKind.i64.wrap (q.p + 1) = q.p + 1 := by rw [wrap_i64]; omega
    simp (disch := first | assumption | exact Ne.symm (by assumption) | omega) only [hd, hF1, hF2, hol, hi, ↓ZD, ZW, simprocAttr]
    refine CallQ.of _ (rbehind_pure _ (hW.mono le_up) q hr) ?_
    simp (disch := first | assumption | exact Ne.symm (by assumption) | omega) only [hd, hF1, hF2, hol, hi, wf0, wsz, ↓ZD, ZW, simprocAttr]
    refine ⟨fun hk => ?_, fun hk => ?_⟩
    ·have hk := beq_iff_eq.1 hk
     have hlt : j + 1 < ws.length := by
      have := in_range (ws := ws) (p := q.p + 1) (by omega)
      omega
     rw [show q.p + 1 = ((j + 1 : Nat) : Int) by omega, wdAt_in hlt] at hk
     rw [path_yes he hj hi hlt hk] at hX
     have hta : takeS ws (adv q) 1 = ((ws.getD (j + 1) ((0, [], 0), 0)).1.2.1, adv (adv q)) := by
      have e : wdAt ws (adv q).p = ws.getD (j + 1) ((0, [], 0), 0) := by rw [show (adv q).p = ((j + 1 : Nat) : Int) by show q.p + 1 = _; omega, wdAt_in hlt]
      unfold takeS; rw [if_pos ⟨he, by unfold wk; rw [e]; exact hk⟩]; unfold wtx; rw [e]
     have hlen2 := (wdAt_ok hws (adv q).p).1
     rw [show (adv q).p = ((j + 1 : Nat) : Int) by show q.p + 1 = _; omega, wdAt_in hlt] at hlen2
     have htk := rtake_pure F hW (adv q) 1 (by decide)
     rw [hta] at htk
     generalize (ws.getD (j + 1) ((0, [], 0), 0)).1.2.1 = t at *
     have h65 := hws.1
     refine CallE.pure htk ?_
     simp (disch := first | assumption | exact Ne.symm (by assumption) | omega) only [hd, hF1, hF2, hol, ↓ZD, ZW, simprocAttr]
     refine conj.of (by omega) ?_
     simp (disch := first | assumption | exact Ne.symm (by assumption) | omega) only [hd, hF1, hF2, hol, ↓ZD, ZW, simprocAttr]
     refine conj.of (by omega) ?_
     simp (disch := first | assumption | exact Ne.symm (by assumption) | omega) only [hd, hF1, hF2, hol, ↓ZD, ZW, simprocAttr]
     refine invK.on (adv (adv q), o ++ ([58, 58] ++ t)) ?_ ?_ ?_ ?_
     ·refine .inr ⟨he, by show (0 : Int) ≤ q.p + 1 + 1; omega, by show q.p + 1 + 1 ≤ (ws.length : Int); omega, ?_, ?_⟩
      ·show (o ++ ([58, 58] ++ t)).length ≤ 65538 * (q.p + 1 + 1).toNat
       simp only [List.length_append, List.length_cons, List.length_nil]; omega
      ·rw [hX, show (adv (adv q)).p.toNat = j + 2 by show (q.p + 1 + 1).toNat = _; omega]
       refine Prod.ext (by simp) ?_
       show (⟨_, _, _, _⟩ : St) = ⟨_, _, _, _⟩
       congr 1
       show q.p + ((pathL (ws.drop (j + 2))).2 + 2 : Nat) = q.p + 1 + 1 + ((pathL (ws.drop (j + 2))).2 : Nat)
       omega
     ·show ws.length - (q.p + 1 + 1).toNat < ws.length - q.p.toNat
      omega
     ·simp only [Le_nil, Le_cons]; simp (disch := first | assumption | exact Ne.symm (by assumption) | omega) only [↓ZD, ZW, simprocAttr]; try trivial
     ·simp only [HLe_nil, HLe_cons]; try (simp (disch := first | assumption | exact Ne.symm (by assumption) | omega) only [↓ZD, ZW, simprocAttr])
    ·have hk := beq_eq_false_iff_ne.1 hk
     have hno : ¬ j + 1 < ws.length ∨ ((ws.getD (j + 1) ((0, [], 0), 0)).1.1 : Int) ≠ 1 := by
      by_cases hlt : j + 1 < ws.length
      ·rw [show q.p + 1 = ((j + 1 : Nat) : Int) by omega, wdAt_in hlt] at hk
       exact .inr hk
      ·exact .inl hlt
     rw [path_no hj2 (.inr hno)] at hX
     subst hX
     simp (disch := first | assumption | exact Ne.symm (by assumption) | omega) only [hd, hF1, hF2, hol, hi, List.append_nil, Int.add_zero, Int.cast_ofNat_Int, ↓ZD, ZW, simprocAttr]
 ·have hq : (if wtx ws p ∈ ownL then failS ws p 10 else p) = p := if_neg (of_decide_eq_false h)
  refine CallE.pure (rtake_pure F hW (p) 1 (by decide)) ?_
  simp (disch := first | assumption | exact Ne.symm (by assumption) | omega) only [hF1, hF2, hol, ↓ZD, ZW, simprocAttr]
  rw [show pathS ws p = pathT ws (takeS ws (p) 1) from by unfold pathS; rw [hq]]
  have hI0 := pathI0 hws (p)
  revert hI0
  generalize pathT ws (takeS ws (p) 1) = X
  generalize (takeS ws (p) 1).1 = o0
  generalize (takeS ws (p) 1).2 = q0
  intro hI0
  refine LoopL.inv (α := St × Str) (PathI ws X) (fun y => [(1, some (.pointer (some ⟨b1, 0, none⟩))), (2, some (.pointer (some ⟨b2, 0, none⟩))), (4, some (.string (bs y.2)))]) (fun y => [(b2, .cells #[Value.slice none 0 0, Value.int IntKind.i64 0, Value.int IntKind.i64 0, Value.int IntKind.i64 0, Value.int IntKind.i64 0] 70 (0, 0)), (b1, .cells #[l, .int .i64 y.1.p, .int .i64 y.1.deep, .int .i64 y.1.e, .int .i64 y.1.bad] 70 (0, 0))]) (fun y => ws.length - y.1.p.toNat) (q0, o0) hI0 (by (simp (disch := first | assumption | exact Ne.symm (by assumption) | omega) only [↓ZD, ZW, simprocAttr]; try trivial)) (by (try (simp (disch := first | assumption | exact Ne.symm (by assumption) | omega) only [↓ZD, ZW, simprocAttr]); try trivial)) ?_
  rintro ⟨q, o⟩ hI
  unfold PathI at hI
  dsimp only at hI
  rcases hI with ⟨he, hX⟩ | ⟨he, h0, h1, ho, hX⟩
  ·have hd : (q.e == 0) = false := by simpa using he
   subst hX
   simp (disch := first | assumption | exact Ne.symm (by assumption) | omega) only [hd, hF1, hF2, hol, ↓ZD, ZW, simprocAttr]
   refine CallQ.of (.bool false) trivial ?_
   simp (disch := first | assumption | exact Ne.symm (by assumption) | omega) only [hd, hF1, hF2, hol, ↓ZD, ZW, simprocAttr]
   refine CallQ.of (.agg (wdV (wdAt ws 0).1 (wdAt ws 0).2).toArray) trivial ?_
   simp (disch := first | assumption | exact Ne.symm (by assumption) | omega) only [hd, hF1, hF2, hol, wf0, wsz, ↓ZD, ZW, simprocAttr]
  ·have hd : (q.e == 0) = true := by simpa using he
   obtain ⟨j, hj⟩ : ∃ j : Nat, q.p = j := ⟨q.p.toNat, by omega⟩
   have hj2 : q.p.toNat = j := by omega
   rw [hj2] at hX
   simp (disch := first | assumption | exact Ne.symm (by assumption) | omega) only [hd, hF1, hF2, hol, ↓ZD, ZW, simprocAttr]
   refine CallQ.of _ (rIs_pure _ (hW.mono le_up) q [58, 58]) ?_
   cases hi : isS ws q [58, 58] with
   | false =>
    rw [path_no hj2 (.inl ⟨he, h0, hi⟩)] at hX
    subst hX
    simp (disch := first | assumption | exact Ne.symm (by assumption) | omega) only [hd, hF1, hF2, hol, hi, ↓ZD, ZW, simprocAttr]
    refine CallQ.of (.agg (wdV (wdAt ws 0).1 (wdAt ws 0).2).toArray) trivial ?_
    simp (disch := first | assumption | exact Ne.symm (by assumption) | omega) only [hd, hF1, hF2, hol, hi, wf0, wsz, List.append_nil, Int.add_zero, Int.cast_ofNat_Int, ↓ZD, ZW, simprocAttr]
   | true =>
    have hr := isS_range hi
    have hw1 : IntKind.i64.wrap (q.p + 1) = q.p + 1 := by rw [wrap_i64]; omega
    simp (disch := first | assumption | exact Ne.symm (by assumption) | omega) only [hd, hF1, hF2, hol, hi, ↓ZD, ZW, simprocAttr]
    refine CallQ.of _ (rbehind_pure _ (hW.mono le_up) q hr) ?_
    simp (disch := first | assumption | exact Ne.symm (by assumption) | omega) only [hd, hF1, hF2, hol, hi, wf0, wsz, ↓ZD, ZW, simprocAttr]
    refine ⟨fun hk => ?_, fun hk => ?_⟩
    ·have hk := beq_iff_eq.1 hk
     have hlt : j + 1 < ws.length := by
      have := in_range (ws := ws) (p := q.p + 1) (by omega)
      omega
     rw [show q.p + 1 = ((j + 1 : Nat) : Int) by omega, wdAt_in hlt] at hk
     rw [path_yes he hj hi hlt hk] at hX
     have hta : takeS ws (adv q) 1 = ((ws.getD (j + 1) ((0, [], 0), 0)).1.2.1, adv (adv q)) := by
      have e : wdAt ws (adv q).p = ws.getD (j + 1) ((0, [], 0), 0) := by rw [show (adv q).p = ((j + 1 : Nat) : Int) by show q.p + 1 = _; omega, wdAt_in hlt]
      unfold takeS; rw [if_pos ⟨he, by unfold wk; rw [e]; exact hk⟩]; unfold wtx; rw [e]
     have hlen2 := (wdAt_ok hws (adv q).p).1
     rw [show (adv q).p = ((j + 1 : Nat) : Int) by show q.p + 1 = _; omega, wdAt_in hlt] at hlen2
     have htk := rtake_pure F hW (adv q) 1 (by decide)
     rw [hta] at htk
     generalize (ws.getD (j + 1) ((0, [], 0), 0)).1.2.1 = t at *
     have h65 := hws.1
     refine CallE.pure htk ?_
     simp (disch := first | assumption | exact Ne.symm (by assumption) | omega) only [hd, hF1, hF2, hol, ↓ZD, ZW, simprocAttr]
     refine conj.of (by omega) ?_
     simp (disch := first | assumption | exact Ne.symm (by assumption) | omega) only [hd, hF1, hF2, hol, ↓ZD, ZW, simprocAttr]
     refine conj.of (by omega) ?_
     simp (disch := first | assumption | exact Ne.symm (by assumption) | omega) only [hd, hF1, hF2, hol, ↓ZD, ZW, simprocAttr]
     refine invK.on (adv (adv q), o ++ ([58, 58] ++ t)) ?_ ?_ ?_ ?_
     ·refine .inr ⟨he, by show (0 : Int) ≤ q.p + 1 + 1; omega, by show q.p + 1 + 1 ≤ (ws.length : Int); omega, ?_, ?_⟩
      ·show (o ++ ([58, 58] ++ t)).length ≤ 65538 * (q.p + 1 + 1).toNat
       simp only [List.length_append, List.length_cons, List.length_nil]; omega
      ·rw [hX, show (adv (adv q)).p.toNat = j + 2 by show (q.p + 1 + 1).toNat = _; omega]
       refine Prod.ext (by simp) ?_
       show (⟨_, _, _, _⟩ : St) = ⟨_, _, _, _⟩
       congr 1
       show q.p + ((pathL (ws.drop (j + 2))).2 + 2 : Nat) = q.p + 1 + 1 + ((pathL (ws.drop (j + 2))).2 : Nat)
       omega
     ·show ws.length - (q.p + 1 + 1).toNat < ws.length - q.p.toNat
      omega
     ·simp only [Le_nil, Le_cons]; simp (disch := first | assumption | exact Ne.symm (by assumption) | omega) only [↓ZD, ZW, simprocAttr]; try trivial
     ·simp only [HLe_nil, HLe_cons]; try (simp (disch := first | assumption | exact Ne.symm (by assumption) | omega) only [↓ZD, ZW, simprocAttr])
    ·have hk := beq_eq_false_iff_ne.1 hk
     have hno : ¬ j + 1 < ws.length ∨ ((ws.getD (j + 1) ((0, [], 0), 0)).1.1 : Int) ≠ 1 := by
      by_cases hlt : j + 1 < ws.length
      ·rw [show q.p + 1 = ((j + 1 : Nat) : Int) by omega, wdAt_in hlt] at hk
       exact .inr hk
      ·exact .inl hlt
     rw [path_no hj2 (.inr hno)] at hX
     subst hX
     simp (disch := first | assumption | exact Ne.symm (by assumption) | omega) only [hd, hF1, hF2, hol, hi, List.append_nil, Int.add_zero, Int.cast_ofNat_Int, ↓ZD, ZW, simprocAttr]
end Go.Proofs.YtnenbihkcjgddaaGreatDoor
namespace Go.Proofs.YtnenbihkcjgddaaGreatDoor
open Go Go.Eng
set_option maxHeartbeats 1000000
set_option linter.unusedSimpArgs false
set_option linter.unusedVariables false
set_option maxRecDepth 20000
theorem enter {ws : Ws} {R : St → Option (Ex' × St)} (hgo : ∀ s y, R s = some y → Fwd 0 s y.2) {p s s' : St} {x : Ex'} (h : nestR ws R s = some (x, s')) (hA : Agr p s) (hg : Good s) :
  ((downS ws p).e ≠ 0 ∧ Agr (downS ws p) s' ∧ s'.e ≠ 0) ∨ (downS ws p = inn p ∧ Good (inn p) ∧ ∃ t, R (inn p) = some (x, t) ∧ Fwd 0 (inn p) t ∧ s' = out1 t ∧ p = s ∧ s.e = 0) := by
 have hd := downS_agr (ws := ws) hA hg
 unfold nestR at h
 by_cases he : s.e = 0
 ·obtain rfl := hA.ok he
  rw [if_pos he] at h
  by_cases h50 : 50 ≤ p.deep
  ·rw [if_pos h50] at h hd
   simp only [Option.some.injEq, Prod.mk.injEq] at h
   obtain ⟨-, rfl⟩ := h
   have e1 : (failS ws p 11).e ≠ 0 := failS_e (by decide)
   exact .inl ⟨by rw [hd.e]; exact e1, hd, e1⟩
  ·rw [if_neg h50] at h hd
   obtain ⟨⟨x1, t⟩, h1, h2⟩ := map_some' h
   simp only [Prod.mk.injEq] at h2
   obtain ⟨rfl, rfl⟩ := h2
   have := hg he
   exact .inr ⟨hd.ok he, fun _ => by show 0 ≤ p.deep + 1 ∧ p.deep + 1 ≤ 50; omega, t, h1, hgo _ _ h1, rfl, rfl, he⟩
 ·rw [if_neg he] at h
  simp only [Option.some.injEq, Prod.mk.injEq] at h
  obtain ⟨-, rfl⟩ := h
  have e1 : (if 50 ≤ s.deep then failS ws s 11 else inn s).e = s.e ∧ (if 50 ≤ s.deep then failS ws s 11 else inn s).bad = s.bad := by
   split
   ·rw [failS_err he]; exact ⟨rfl, rfl⟩
   ·exact ⟨rfl, rfl⟩
  exact .inl ⟨by rw [hd.e, e1.1]; exact he, .inr ⟨he, by rw [hd.e, e1.1], by rw [hd.bad, e1.2]⟩, he⟩
theorem rexpr_prs (F : Base) {ws : Ws} (hws : WsOk ws) {l : Value} (hW : HasW F ws l) (k : NT → St → Option (Ex' × St)) (hgo : GoesOn k) (h1 : RPrs F l 41 [] (k .expr)) (h2 : RPrs F l 75 [.int .i64 0] (k (.lev 0))) : RPrs F l 41 [] (nestR ws (choiceG ws k)) := by
 intro F' hFF p s x s' hA hg hR
 have hW := hW.mono hFF
 have hol := hW.one'
 refine Does.rfin (does_of_svc (args := [PV l p]) mixed Tryz.func41 low41 (Nat.le_of_ble_eq_true rfl) fun w0 hw0 => ?_)
 simp only [*, fu41, ↓ZD, ZW, RO, simprocAttr]
 refine NewB.n ?_
 rintro b1 _ _
 simp only [*, ↓ZD, ZW, RO, simprocAttr]
 refine NewB.n ?_
 rintro b2 ⟨_, _, _⟩ _
 simp only [*, ↓ZD, ZW, RO, simprocAttr]
 refine NewB.n ?_
 rintro b3 ⟨_, _, _, _, _⟩ _
 simp only [*, ↓ZD, ZW, RO, simprocAttr]
 refine CallE.pure (rdown_pure _ hW p) ?_
 rcases enter (fun s y => goes_choice hgo) hR hA hg with ⟨he, hAq, he'⟩ | ⟨hq, hgq, t, hR, hf, rfl, rfl, he'⟩
 ·generalize downS ws p = q at *
  have hd : (q.e != 0) = true := by simpa using he
  simp only [*, ↓ZD, ZW, RO, simprocAttr]
  exact RFin.m [] hAq ⟨rfl, rfl, rfl, rfl⟩ (fun h => absurd h he') Wk.nil all_nil
 rw [hq]
 have hd : ((inn p).e != 0) = false := by show (p.e != 0) = false; simpa using he'
 have hqe : (inn p).e = p.e ∧ (inn p).deep = p.deep + 1 := ⟨rfl, rfl⟩
 clear hq
 generalize inn p = q at *
 have hf2 : t.e = 0 → p.e = 0 ∧ t.deep = p.deep + 1 := fun he => ⟨hqe.1 ▸ (hf he).1, (hf he).2.2.trans hqe.2⟩
 clear hf hqe
 simp only [*, ↓ZD, ZW, RO, simprocAttr]
 refine NewB.n ?_
 rintro b4 ⟨_, _, _, _, _, _, _⟩ _
 simp only [*, ↓ZD, ZW, RO, simprocAttr]
 refine CallE.pure (rIs_pure _ hW q [105, 102]) ?_
 unfold choiceG at hR
 rcases tf (isS ws q [105, 102]) with hi | hi
 ·have hlen := hW.len
  have hrg := isS_range hi
  have hw1 : IntKind.i64.wrap (q.p + 1) = q.p + 1 := by rw [wrap_i64]; omega
  rw [hi, if_pos rfl] at hR
  obtain ⟨⟨x1, s1⟩, hR1, hR⟩ := bind_some hR
  obtain ⟨⟨x2, s2⟩, hR2, hR⟩ := bind_some hR
  obtain ⟨⟨x3, s3⟩, hR3, hR⟩ := map_some' hR
  simp only [Prod.mk.injEq] at hR
  obtain ⟨rfl, rfl⟩ := hR
  simp only at hR2 hR3
  have hg1 := hgq.adv.fwd (hgo _ _ _ hR1)
  have hg2 := hg1.must.fwd (hgo _ _ _ hR2)
  have h3a : s3.e = 0 → s2.e = 0 := fun he => must_e (hgo _ _ _ hR3 he).1
  have h2a : s3.e = 0 → s1.e = 0 := fun he => must_e (hgo _ _ _ hR2 (h3a he)).1
  simp only [*, ↓ZD, ZW, RO, simprocAttr]
  refine NewB.n ?_
  rintro b5 ⟨_, _, _, _, _, _, _, _, _⟩ _
  simp only [*, ↓ZD, ZW, RO, simprocAttr]
  refine NewB.n ?_
  rintro b6 ⟨_, _, _, _, _, _, _, _, _, _, _⟩ _
  simp only [*, ↓ZD, ZW, RO, simprocAttr]
  refine NewB.n ?_
  rintro b7 ⟨_, _, _, _, _, _, _, _, _, _, _, _, _⟩ _
  simp only [*, ↓ZD, ZW, RO, simprocAttr]
  refine CallE.rq (p := adv q) (s := adv q) (h1.mono hFF) Agr.rfl' hgq.adv hR1 (by simp only [*, ↓ZD, ZW, RO, simprocAttr]) ?_
  rintro p1 cs1 G1 hA1 hr1 ⟨_, ⟨_, _, _, _, _, _, _, _⟩, hx1, _⟩
  simp only [*, ↓ZD, ZW, RO, simprocAttr]
  refine CallE.pure (rmust_pure _ hW p1 [116, 104, 101, 110]) ?_
  simp only [*, ↓ZD, ZW, RO, simprocAttr]
  refine CallE.rq (h1.mono hFF) hA1.must hg1.must hR2 (by simp only [*, ↓ZD, ZW, RO, simprocAttr]) ?_
  rintro p2 cs2 G2 hA2 hr2 ⟨_, ⟨_, _, _, _, _, _, _, _⟩, hx2, _⟩
  simp only [*, ↓ZD, ZW, RO, simprocAttr]
  refine CallE.pure (rmust_pure _ hW p2 [101, 108, 115, 101]) ?_
  simp only [*, ↓ZD, ZW, RO, simprocAttr]
  refine CallE.rq (h1.mono hFF) hA2.must hg2.must hR3 (by simp only [*, ↓ZD, ZW, RO, simprocAttr]) ?_
  rintro p3 cs3 G3 hA3 hr3 ⟨_, ⟨_, _, _, _, _, _, _, _⟩, hx3, _⟩
  have c1 := ‹Ok12 cs1›
  have c2 := ‹Ok12 cs2›
  have c3 := ‹Ok12 cs3›
  simp only [*, tk12 c1, tk24 c1, dr12 c1, dr24 c1, dr36 c1, tk12 c2, tk24 c2, dr12 c2, dr24 c2, dr36 c2, tk12 c3, tk24 c3, dr12 c3, dr24 c3, dr36 c3, List.append_assoc, ↓ZD, ZW, RO, simprocAttr]
  refine NewB.n ?_
  rintro b8 ⟨_, _, _, _, _, _, _, _, _, _, _, _, _, _, _⟩ _
  simp only [*, ↓ZD, ZW, RO, simprocAttr]
  refine TreeL.open ?_
  simp only [*, ↓ZD, ZW, RO, simprocAttr]
  repeat' (first | exact RFin.m _ (outW_agr hA3 hg hf2) ⟨rfl, rfl, rfl, rfl⟩ (fun he => rep_if (T := 39) ‹_› ‹_› (i64_lit rfl) (((hr1 (h2a he)).mono hx2).mono hx3) ((hr2 (h3a he)).mono hx3) (hr3 he)) (Wk.cb ‹_› ‹_›) (by simp +contextual) | apply And.intro)
 rw [hi, if_neg (by decide)] at hR
 simp only [*, ↓ZD, ZW, RO, simprocAttr]
 refine CallE.rq (p := q) (s := q) (h2.mono hFF) Agr.rfl' hgq hR (by simp only [*, ↓ZD, ZW, RO, simprocAttr]) ?_
 rintro p1 cs1 G1 hA1 hr1 ⟨_, ⟨_, _, _, _, _⟩, hx1, _⟩
 simp only [*, ↓ZD, ZW, RO, simprocAttr]
 refine TreeL.open ?_
 simp only [*, ↓ZD, ZW, RO, simprocAttr]
 repeat' (first | exact RFin.g (outW_agr hA1 hg hf2) ‹_› hr1 ‹_› | apply And.intro)
end Go.Proofs.YtnenbihkcjgddaaGreatDoor
namespace Go.Proofs.YtnenbihkcjgddaaGreatDoor
open Go Go.Eng
set_option maxHeartbeats 1000000
set_option linter.unusedSimpArgs false
set_option linter.unusedVariables false
set_option maxRecDepth 20000
theorem rlower0_prs (F : Base) {ws : Ws} {l : Value} (hW : HasW F ws l) (n : Nat) (h1 : RPrs F l 75 [.int .i64 1] (G ws n (.lev 1))) : RPrs F l 94 [.int .i64 0] (G ws n (lowN 0)) := by
 intro F' hFF p s x s' hA hg hR
 have hW := hW.mono hFF
 have hol := hW.one'
 refine Does.rfin (does_of_svc (args := [PV l p, .int .i64 0]) mixed Tryz.func94 low94 (Nat.le_of_ble_eq_true rfl) fun w0 hw0 => ?_)
 simp only [*, fu94, ↓ZD, ZW, RO, simprocAttr]
 refine NewB.n ?_
 rintro b1 _ _
 simp only [*, ↓ZD, ZW, RO, simprocAttr]
 refine NewB.n ?_
 rintro b2 ⟨_, _, _⟩ _
 simp only [*, ↓ZD, ZW, RO, simprocAttr]
 refine NewB.n ?_
 rintro b3 ⟨_, _, _, _, _⟩ _
 simp only [*, ↓ZD, ZW, RO, simprocAttr]
 refine CallE.rq (h1.mono hFF) hA hg hR (by simp only [*, ↓ZD, ZW, RO, simprocAttr]) ?_
 rintro p1 cs1 G1 hA1 hr1 ⟨_, ⟨_, _, _, _⟩, hx1, _⟩
 simp only [*, ↓ZD, ZW, RO, simprocAttr]
 repeat' (first | exact RFin.g hA1 ‹_› hr1 ‹_› | apply And.intro)
theorem rlower1_prs (F : Base) {ws : Ws} {l : Value} (hW : HasW F ws l) (n : Nat) (h1 : RPrs F l 105 [] (G ws n (.rel))) : RPrs F l 94 [.int .i64 1] (G ws n (lowN 1)) := by
 intro F' hFF p s x s' hA hg hR
 have hW := hW.mono hFF
 have hol := hW.one'
 refine Does.rfin (does_of_svc (args := [PV l p, .int .i64 1]) mixed Tryz.func94 low94 (Nat.le_of_ble_eq_true rfl) fun w0 hw0 => ?_)
 simp only [*, fu94, ↓ZD, ZW, RO, simprocAttr]
 refine NewB.n ?_
 rintro b1 _ _
 simp only [*, ↓ZD, ZW, RO, simprocAttr]
 refine NewB.n ?_
 rintro b2 ⟨_, _, _⟩ _
 simp only [*, ↓ZD, ZW, RO, simprocAttr]
 refine NewB.n ?_
 rintro b3 ⟨_, _, _, _, _⟩ _
 simp only [*, ↓ZD, ZW, RO, simprocAttr]
 refine CallE.rq (h1.mono hFF) hA hg hR (by simp only [*, ↓ZD, ZW, RO, simprocAttr]) ?_
 rintro p1 cs1 G1 hA1 hr1 ⟨_, ⟨_, _, _, _⟩, hx1, _⟩
 simp only [*, ↓ZD, ZW, RO, simprocAttr]
 repeat' (first | exact RFin.g hA1 ‹_› hr1 ‹_› | apply And.intro)
theorem rlower2_prs (F : Base) {ws : Ws} {l : Value} (hW : HasW F ws l) (n : Nat) (h1 : RPrs F l 75 [.int .i64 3] (G ws n (.lev 3))) : RPrs F l 94 [.int .i64 2] (G ws n (lowN 2)) := by
 intro F' hFF p s x s' hA hg hR
 have hW := hW.mono hFF
 have hol := hW.one'
 refine Does.rfin (does_of_svc (args := [PV l p, .int .i64 2]) mixed Tryz.func94 low94 (Nat.le_of_ble_eq_true rfl) fun w0 hw0 => ?_)
 simp only [*, fu94, ↓ZD, ZW, RO, simprocAttr]
 refine NewB.n ?_
 rintro b1 _ _
 simp only [*, ↓ZD, ZW, RO, simprocAttr]
 refine NewB.n ?_
 rintro b2 ⟨_, _, _⟩ _
 simp only [*, ↓ZD, ZW, RO, simprocAttr]
 refine NewB.n ?_
 rintro b3 ⟨_, _, _, _, _⟩ _
 simp only [*, ↓ZD, ZW, RO, simprocAttr]
 refine CallE.rq (h1.mono hFF) hA hg hR (by simp only [*, ↓ZD, ZW, RO, simprocAttr]) ?_
 rintro p1 cs1 G1 hA1 hr1 ⟨_, ⟨_, _, _, _⟩, hx1, _⟩
 simp only [*, ↓ZD, ZW, RO, simprocAttr]
 repeat' (first | exact RFin.g hA1 ‹_› hr1 ‹_› | apply And.intro)
theorem rlower3_prs (F : Base) {ws : Ws} {l : Value} (hW : HasW F ws l) (n : Nat) (h1 : RPrs F l 106 [] (G ws n (.unary))) : RPrs F l 94 [.int .i64 3] (G ws n (lowN 3)) := by
 intro F' hFF p s x s' hA hg hR
 have hW := hW.mono hFF
 have hol := hW.one'
 refine Does.rfin (does_of_svc (args := [PV l p, .int .i64 3]) mixed Tryz.func94 low94 (Nat.le_of_ble_eq_true rfl) fun w0 hw0 => ?_)
 simp only [*, fu94, ↓ZD, ZW, RO, simprocAttr]
 refine NewB.n ?_
 rintro b1 _ _
 simp only [*, ↓ZD, ZW, RO, simprocAttr]
 refine NewB.n ?_
 rintro b2 ⟨_, _, _⟩ _
 simp only [*, ↓ZD, ZW, RO, simprocAttr]
 refine NewB.n ?_
 rintro b3 ⟨_, _, _, _, _⟩ _
 simp only [*, ↓ZD, ZW, RO, simprocAttr]
 refine CallE.rq (h1.mono hFF) hA hg hR (by simp only [*, ↓ZD, ZW, RO, simprocAttr]) ?_
 rintro p1 cs1 G1 hA1 hr1 ⟨_, ⟨_, _, _, _⟩, hx1, _⟩
 simp only [*, ↓ZD, ZW, RO, simprocAttr]
 repeat' (first | exact RFin.g hA1 ‹_› hr1 ‹_› | apply And.intro)
theorem isS_ne {ws : Ws} {p : St} {a b : Str} (h : isS ws p a = true) (hn : (a == b) = false) : isS ws p b = false := by
 unfold isS at *
 rw [Bool.and_eq_true] at h
 rw [beq_iff_eq.1 h.2, hn, Bool.and_false]
structure RLvI (ws : Ws) (F : Base) (b1 b2 b3 b4 N : Nat) (t : Ex' → NT) (xF : Ex') (sF : St) (y : RowS) : Prop where
 A : Agr y.p y.s
 g : Good y.s
 c : Ok12 y.cs
 r : y.s.e = 0 → RepP (rdObj F y.G) y.cs y.x
 n : Nb b1 y.G ∧ Nb b2 y.G ∧ Nb b3 y.G ∧ Nb b4 y.G
 w : Wk y.G
 m : y.m ≤ N
 R : G ws y.m (t y.x) y.s = some (xF, sF)
abbrev zp : List Value := [Value.slice none 0 0, Value.int IntKind.i64 0, Value.int IntKind.i64 0, Value.int IntKind.i64 0, Value.int IntKind.i64 0]
theorem rlev0_prs (F : Base) {ws : Ws} {l : Value} (hW : HasW F ws l) (N : Nat) (h1 : ∀ n ≤ N, RPrs F l 94 [.int .i64 0] (G ws n (lowN 0))) : RPrs F l 75 [.int .i64 0] (G ws (N + 1) (.lev 0)) := by
 intro F' hFF p s x s' hA hg hR
 have hW := hW.mono hFF
 have hol := hW.one'
 refine Does.rfin (does_of_svc (args := [PV l p, .int .i64 0]) mixed Tryz.func75 low75 (Nat.le_of_ble_eq_true rfl) fun w0 hw0 => ?_)
 simp only [*, fu75, ↓ZD, ZW, RO, simprocAttr]
 refine NewB.n ?_
 rintro b1 _ _
 simp only [*, ↓ZD, ZW, RO, simprocAttr]
 refine NewB.n ?_
 rintro b2 ⟨_, _, _⟩ _
 simp only [*, ↓ZD, ZW, RO, simprocAttr]
 refine NewB.n ?_
 rintro b3 ⟨_, _, _, _, _⟩ _
 simp only [*, ↓ZD, ZW, RO, simprocAttr]
 obtain ⟨x1, s1, -, hR1, hR2⟩ := row_split hR
 refine CallE.rq (h1 N (Nat.le_refl _) |>.mono hFF) hA hg hR1 (by simp only [*, ↓ZD, ZW, RO, simprocAttr]) ?_
 rintro p1 cs1 G1 hA1 hr1 ⟨_, ⟨_, _, _, _⟩, hx1, _⟩
 simp only [*, ↓ZD, ZW, RO, simprocAttr]
 refine NewB.n ?_
 rintro b4 ⟨_, _, _, _, _, _, _⟩ _
 simp only [*, ↓ZD, ZW, RO, simprocAttr]
 refine LoopL.inv (α := RowS) (RLvI ws F' b1 b2 b3 b4 N (.rows 0) x s') (fun y => [(1, some (.int .i64 0)), (2, some (.pointer (some ⟨b1, 0, none⟩))), (4, some (.pointer (some ⟨b2, 0, none⟩))), (5, some (.pointer (some ⟨b3, 0, none⟩))), (6, some (.pointer (some ⟨b4, 0, none⟩)))])
  (fun y => (b4, .cells y.cs.toArray 39 (0, 0)) :: (b3, .cells zx.toArray 39 (0, 0)) :: (b2, .cells zp.toArray 70 (0, 0)) :: (b1, .cells #[l, .int .i64 y.p.p, .int .i64 y.p.deep, .int .i64 y.p.e, .int .i64 y.p.bad] 70 (0, 0)) :: y.G) (fun y => y.m) ⟨p1, s1, cs1, G1, x1, N⟩ ⟨hA1, hg.go hR1, ‹_›, hr1, ⟨‹_›, ‹_›, ‹_›, ‹_›⟩, ‹_›, Nat.le_refl _, hR2⟩ (by simp only [*, ↓ZD, ZW, RO, simprocAttr]) (by simp only [*, ↓ZD, ZW, RO, simprocAttr]) ?_
 clear hR hR1 hR2 hA hg hA1 hr1 hx1
 rintro ⟨p, s, cs9, G9, x1, m⟩ ⟨hA, hg, hc9, hr9, ⟨_, _, _, _⟩, hw9, hm, hR⟩
 dsimp only at hA hg hc9 hr9 hw9 hm hR ⊢
 have hlen := hW.len
 by_cases he0 : s.e = 0
 ·obtain rfl := hA.ok he0
  have hd : (p.e == 0) = true := by simpa using he0
  obtain ⟨m, rfl⟩ : ∃ m', m = m' + 1 := by
   cases m with
   | zero => exact absurd he0 (G_zero hR).1
   | succ m => exact ⟨m, rfl⟩
  rw [G_succ, if_pos he0] at hR
  simp only [stepG] at hR
  replace he0 : id (p.e = 0) := he0
  simp only [*, ↓ZD, ZW, RO, simprocAttr]
  refine TreeL.open ?_
  simp only [*, ↓ZD, ZW, RO, simprocAttr]
  refine NewB.n ?_
  rintro b5 ⟨_, _, _, _, _, _, _, _, _⟩ _
  simp only [*, ↓ZD, ZW, RO, simprocAttr]
  refine CallQ.of _ (rIs_pure _ (hW.mono le_up) p [124, 124]) ?_
  rcases tf (isS ws p [124, 124]) with hi | hi
  ·have ho : opAt ws 0 p = 5 := if_pos hi
   have hrg := isS_range hi
   have hw1 : IntKind.i64.wrap (p.p + 1) = p.p + 1 := by rw [wrap_i64]; omega
   simp only [ho] at hR
   rw [if_neg (by decide)] at hR
   obtain ⟨⟨y, t⟩, hR3, hR4⟩ := bind_some hR
   clear hR
   simp only [*, ↓ZD, ZW, RO, simprocAttr]
   refine NewB.n ?_
   rintro b6 ⟨_, _, _, _, _, _, _, _, _, _, _⟩ _
   simp only [*, ↓ZD, ZW, RO, simprocAttr]
   refine CallQ.of (.bool false) trivial ?_
   simp only [*, ↓ZD, ZW, RO, simprocAttr]
   refine NewB.n ?_
   rintro b7 ⟨_, _, _, _, _, _, _, _, _, _, _, _, _⟩ _
   simp only [*, ↓ZD, ZW, RO, simprocAttr]
   refine CallE.rq (p := adv p) (s := adv p) ((h1 m (by omega)).mono hFF) Agr.rfl' hg.adv hR3 (by simp only [*, ↓ZD, ZW, RO, simprocAttr]) ?_
   rintro p10 cs10 G10 hA10 hr10 ⟨_, ⟨_, _, _, _, _, _, _, _⟩, hx10, _⟩
   simp only [*, ↓ZD, ZW, RO, simprocAttr]
   refine CallE.pair (i64_lit rfl) (fun he => ((hr9 he0).mono hx10)) (fun he => (hr10 he)) ‹_› ‹_› (by simp only [*, ↓ZD, ZW, RO, simprocAttr]) ?_
   rintro cs11 G11 hr11 ⟨_, ⟨_, _, _, _, _, _, _, _⟩, hx11, _⟩
   simp only [*, ↓ZD, ZW, RO, simprocAttr]
   refine invK.on ⟨p10, t, cs11, G11, twoX 5 x1 y, m⟩ ⟨hA10, hg.adv.go hR3, ‹_›, hr11, ⟨‹_›, ‹_›, ‹_›, ‹_›⟩, ‹_›, (by show m ≤ N; omega), hR4⟩ (by show m < m + 1; omega) (by simp only [*, ↓ZD, ZW, RO, simprocAttr]) (by simp only [*, ↓ZD, ZW, RO, simprocAttr])
  simp only [*, ↓ZD, ZW, RO, simprocAttr]
  have ho : opAt ws 0 p = 0 := if_neg (by rw [hi]; decide)
  simp only [ho, if_true, Option.some.injEq, Prod.mk.injEq] at hR
  obtain ⟨rfl, rfl⟩ := hR
  refine CallQ.of (.bool false) trivial ?_
  simp only [*, ↓ZD, ZW, RO, simprocAttr]
  refine TreeL.open ?_
  simp only [*, ↓ZD, ZW, RO, simprocAttr]
  repeat' (first | exact RFin.g hA ‹_› hr9 ‹_› | apply And.intro)
 ·have hd : (p.e == 0) = false := by rw [hA.e]; simpa using he0
  obtain ⟨rfl, rfl⟩ := G_err he0 _ _ hR
  simp only [*, ↓ZD, ZW, RO, simprocAttr]
  refine TreeL.open ?_
  simp only [*, ↓ZD, ZW, RO, simprocAttr]
  repeat' (first | exact RFin.g hA ‹_› (fun h => absurd h he0) ‹_› | apply And.intro)
theorem rlev1_prs (F : Base) {ws : Ws} {l : Value} (hW : HasW F ws l) (N : Nat) (h1 : ∀ n ≤ N, RPrs F l 94 [.int .i64 1] (G ws n (lowN 1))) : RPrs F l 75 [.int .i64 1] (G ws (N + 1) (.lev 1)) := by
 intro F' hFF p s x s' hA hg hR
 have hW := hW.mono hFF
 have hol := hW.one'
 refine Does.rfin (does_of_svc (args := [PV l p, .int .i64 1]) mixed Tryz.func75 low75 (Nat.le_of_ble_eq_true rfl) fun w0 hw0 => ?_)
 simp only [*, fu75, ↓ZD, ZW, RO, simprocAttr]
 refine NewB.n ?_
 rintro b1 _ _
 simp only [*, ↓ZD, ZW, RO, simprocAttr]
 refine NewB.n ?_
 rintro b2 ⟨_, _, _⟩ _
 simp only [*, ↓ZD, ZW, RO, simprocAttr]
 refine NewB.n ?_
 rintro b3 ⟨_, _, _, _, _⟩ _
 simp only [*, ↓ZD, ZW, RO, simprocAttr]
 obtain ⟨x1, s1, -, hR1, hR2⟩ := row_split hR
 refine CallE.rq (h1 N (Nat.le_refl _) |>.mono hFF) hA hg hR1 (by simp only [*, ↓ZD, ZW, RO, simprocAttr]) ?_
 rintro p1 cs1 G1 hA1 hr1 ⟨_, ⟨_, _, _, _⟩, hx1, _⟩
 simp only [*, ↓ZD, ZW, RO, simprocAttr]
 refine NewB.n ?_
 rintro b4 ⟨_, _, _, _, _, _, _⟩ _
 simp only [*, ↓ZD, ZW, RO, simprocAttr]
 refine LoopL.inv (α := RowS) (RLvI ws F' b1 b2 b3 b4 N (.rows 1) x s') (fun y => [(1, some (.int .i64 1)), (2, some (.pointer (some ⟨b1, 0, none⟩))), (4, some (.pointer (some ⟨b2, 0, none⟩))), (5, some (.pointer (some ⟨b3, 0, none⟩))), (6, some (.pointer (some ⟨b4, 0, none⟩)))])
  (fun y => (b4, .cells y.cs.toArray 39 (0, 0)) :: (b3, .cells zx.toArray 39 (0, 0)) :: (b2, .cells zp.toArray 70 (0, 0)) :: (b1, .cells #[l, .int .i64 y.p.p, .int .i64 y.p.deep, .int .i64 y.p.e, .int .i64 y.p.bad] 70 (0, 0)) :: y.G) (fun y => y.m) ⟨p1, s1, cs1, G1, x1, N⟩ ⟨hA1, hg.go hR1, ‹_›, hr1, ⟨‹_›, ‹_›, ‹_›, ‹_›⟩, ‹_›, Nat.le_refl _, hR2⟩ (by simp only [*, ↓ZD, ZW, RO, simprocAttr]) (by simp only [*, ↓ZD, ZW, RO, simprocAttr]) ?_
 clear hR hR1 hR2 hA hg hA1 hr1 hx1
 rintro ⟨p, s, cs9, G9, x1, m⟩ ⟨hA, hg, hc9, hr9, ⟨_, _, _, _⟩, hw9, hm, hR⟩
 dsimp only at hA hg hc9 hr9 hw9 hm hR ⊢
 have hlen := hW.len
 by_cases he0 : s.e = 0
 ·obtain rfl := hA.ok he0
  have hd : (p.e == 0) = true := by simpa using he0
  obtain ⟨m, rfl⟩ : ∃ m', m = m' + 1 := by
   cases m with
   | zero => exact absurd he0 (G_zero hR).1
   | succ m => exact ⟨m, rfl⟩
  rw [G_succ, if_pos he0] at hR
  simp only [stepG] at hR
  replace he0 : id (p.e = 0) := he0
  simp only [*, ↓ZD, ZW, RO, simprocAttr]
  refine TreeL.open ?_
  simp only [*, ↓ZD, ZW, RO, simprocAttr]
  refine NewB.n ?_
  rintro b5 ⟨_, _, _, _, _, _, _, _, _⟩ _
  simp only [*, ↓ZD, ZW, RO, simprocAttr]
  refine CallQ.of _ (rIs_pure _ (hW.mono le_up) p [38, 38]) ?_
  rcases tf (isS ws p [38, 38]) with hi | hi
  ·have ho : opAt ws 1 p = 4 := if_pos hi
   have hrg := isS_range hi
   have hw1 : IntKind.i64.wrap (p.p + 1) = p.p + 1 := by rw [wrap_i64]; omega
   simp only [ho] at hR
   rw [if_neg (by decide)] at hR
   obtain ⟨⟨y, t⟩, hR3, hR4⟩ := bind_some hR
   clear hR
   simp only [*, ↓ZD, ZW, RO, simprocAttr]
   refine NewB.n ?_
   rintro b6 ⟨_, _, _, _, _, _, _, _, _, _, _⟩ _
   simp only [*, ↓ZD, ZW, RO, simprocAttr]
   refine CallQ.of (.bool false) trivial ?_
   simp only [*, ↓ZD, ZW, RO, simprocAttr]
   refine NewB.n ?_
   rintro b7 ⟨_, _, _, _, _, _, _, _, _, _, _, _, _⟩ _
   simp only [*, ↓ZD, ZW, RO, simprocAttr]
   refine CallE.rq (p := adv p) (s := adv p) ((h1 m (by omega)).mono hFF) Agr.rfl' hg.adv hR3 (by simp only [*, ↓ZD, ZW, RO, simprocAttr]) ?_
   rintro p10 cs10 G10 hA10 hr10 ⟨_, ⟨_, _, _, _, _, _, _, _⟩, hx10, _⟩
   simp only [*, ↓ZD, ZW, RO, simprocAttr]
   refine CallE.pair (i64_lit rfl) (fun he => ((hr9 he0).mono hx10)) (fun he => (hr10 he)) ‹_› ‹_› (by simp only [*, ↓ZD, ZW, RO, simprocAttr]) ?_
   rintro cs11 G11 hr11 ⟨_, ⟨_, _, _, _, _, _, _, _⟩, hx11, _⟩
   simp only [*, ↓ZD, ZW, RO, simprocAttr]
   refine invK.on ⟨p10, t, cs11, G11, twoX 4 x1 y, m⟩ ⟨hA10, hg.adv.go hR3, ‹_›, hr11, ⟨‹_›, ‹_›, ‹_›, ‹_›⟩, ‹_›, (by show m ≤ N; omega), hR4⟩ (by show m < m + 1; omega) (by simp only [*, ↓ZD, ZW, RO, simprocAttr]) (by simp only [*, ↓ZD, ZW, RO, simprocAttr])
  simp only [*, ↓ZD, ZW, RO, simprocAttr]
  have ho : opAt ws 1 p = 0 := if_neg (by rw [hi]; decide)
  simp only [ho, if_true, Option.some.injEq, Prod.mk.injEq] at hR
  obtain ⟨rfl, rfl⟩ := hR
  refine CallQ.of (.bool false) trivial ?_
  simp only [*, ↓ZD, ZW, RO, simprocAttr]
  refine TreeL.open ?_
  simp only [*, ↓ZD, ZW, RO, simprocAttr]
  repeat' (first | exact RFin.g hA ‹_› hr9 ‹_› | apply And.intro)
 ·have hd : (p.e == 0) = false := by rw [hA.e]; simpa using he0
  obtain ⟨rfl, rfl⟩ := G_err he0 _ _ hR
  simp only [*, ↓ZD, ZW, RO, simprocAttr]
  refine TreeL.open ?_
  simp only [*, ↓ZD, ZW, RO, simprocAttr]
  repeat' (first | exact RFin.g hA ‹_› (fun h => absurd h he0) ‹_› | apply And.intro)
theorem rlev2_prs (F : Base) {ws : Ws} {l : Value} (hW : HasW F ws l) (N : Nat) (h1 : ∀ n ≤ N, RPrs F l 94 [.int .i64 2] (G ws n (lowN 2))) : RPrs F l 75 [.int .i64 2] (G ws (N + 1) (.lev 2)) := by
 intro F' hFF p s x s' hA hg hR
 have hW := hW.mono hFF
 have hol := hW.one'
 refine Does.rfin (does_of_svc (args := [PV l p, .int .i64 2]) mixed Tryz.func75 low75 (Nat.le_of_ble_eq_true rfl) fun w0 hw0 => ?_)
 simp only [*, fu75, ↓ZD, ZW, RO, simprocAttr]
 refine NewB.n ?_
 rintro b1 _ _
 simp only [*, ↓ZD, ZW, RO, simprocAttr]
 refine NewB.n ?_
 rintro b2 ⟨_, _, _⟩ _
 simp only [*, ↓ZD, ZW, RO, simprocAttr]
 refine NewB.n ?_
 rintro b3 ⟨_, _, _, _, _⟩ _
 simp only [*, ↓ZD, ZW, RO, simprocAttr]
 obtain ⟨x1, s1, -, hR1, hR2⟩ := row_split hR
 refine CallE.rq (h1 N (Nat.le_refl _) |>.mono hFF) hA hg hR1 (by simp only [*, ↓ZD, ZW, RO, simprocAttr]) ?_
 rintro p1 cs1 G1 hA1 hr1 ⟨_, ⟨_, _, _, _⟩, hx1, _⟩
 simp only [*, ↓ZD, ZW, RO, simprocAttr]
 refine NewB.n ?_
 rintro b4 ⟨_, _, _, _, _, _, _⟩ _
 simp only [*, ↓ZD, ZW, RO, simprocAttr]
 refine LoopL.inv (α := RowS) (RLvI ws F' b1 b2 b3 b4 N (.rows 2) x s') (fun y => [(1, some (.int .i64 2)), (2, some (.pointer (some ⟨b1, 0, none⟩))), (4, some (.pointer (some ⟨b2, 0, none⟩))), (5, some (.pointer (some ⟨b3, 0, none⟩))), (6, some (.pointer (some ⟨b4, 0, none⟩)))])
  (fun y => (b4, .cells y.cs.toArray 39 (0, 0)) :: (b3, .cells zx.toArray 39 (0, 0)) :: (b2, .cells zp.toArray 70 (0, 0)) :: (b1, .cells #[l, .int .i64 y.p.p, .int .i64 y.p.deep, .int .i64 y.p.e, .int .i64 y.p.bad] 70 (0, 0)) :: y.G) (fun y => y.m) ⟨p1, s1, cs1, G1, x1, N⟩ ⟨hA1, hg.go hR1, ‹_›, hr1, ⟨‹_›, ‹_›, ‹_›, ‹_›⟩, ‹_›, Nat.le_refl _, hR2⟩ (by simp only [*, ↓ZD, ZW, RO, simprocAttr]) (by simp only [*, ↓ZD, ZW, RO, simprocAttr]) ?_
 clear hR hR1 hR2 hA hg hA1 hr1 hx1
 rintro ⟨p, s, cs9, G9, x1, m⟩ ⟨hA, hg, hc9, hr9, ⟨_, _, _, _⟩, hw9, hm, hR⟩
 dsimp only at hA hg hc9 hr9 hw9 hm hR ⊢
 have hlen := hW.len
 by_cases he0 : s.e = 0
 ·obtain rfl := hA.ok he0
  have hd : (p.e == 0) = true := by simpa using he0
  obtain ⟨m, rfl⟩ : ∃ m', m = m' + 1 := by
   cases m with
   | zero => exact absurd he0 (G_zero hR).1
   | succ m => exact ⟨m, rfl⟩
  rw [G_succ, if_pos he0] at hR
  simp only [stepG] at hR
  replace he0 : id (p.e = 0) := he0
  simp only [*, ↓ZD, ZW, RO, simprocAttr]
  refine TreeL.open ?_
  simp only [*, ↓ZD, ZW, RO, simprocAttr]
  refine NewB.n ?_
  rintro b5 ⟨_, _, _, _, _, _, _, _, _⟩ _
  simp only [*, ↓ZD, ZW, RO, simprocAttr]
  refine CallQ.of _ (rIs_pure _ (hW.mono le_up) p [43]) ?_
  rcases tf (isS ws p [43]) with hi | hi
  ·have ho : opAt ws 2 p = 11 := if_pos hi
   have hrg := isS_range hi
   have hw1 : IntKind.i64.wrap (p.p + 1) = p.p + 1 := by rw [wrap_i64]; omega
   simp only [ho] at hR
   rw [if_neg (by decide)] at hR
   obtain ⟨⟨y, t⟩, hR3, hR4⟩ := bind_some hR
   clear hR
   have hi2 : isS ws p [45] = false := isS_ne hi (by decide)
   simp only [*, ↓ZD, ZW, RO, simprocAttr]
   refine NewB.n ?_
   rintro b6 ⟨_, _, _, _, _, _, _, _, _, _, _⟩ _
   simp only [*, ↓ZD, ZW, RO, simprocAttr]
   refine CallQ.of _ (rIs_pure _ (hW.mono le_up) p [45]) ?_
   rw [hi2]
   simp only [*, ↓ZD, ZW, RO, simprocAttr]
   refine NewB.n ?_
   rintro b7 ⟨_, _, _, _, _, _, _, _, _, _, _, _, _⟩ _
   simp only [*, ↓ZD, ZW, RO, simprocAttr]
   refine CallE.rq (p := adv p) (s := adv p) ((h1 m (by omega)).mono hFF) Agr.rfl' hg.adv hR3 (by simp only [*, ↓ZD, ZW, RO, simprocAttr]) ?_
   rintro p10 cs10 G10 hA10 hr10 ⟨_, ⟨_, _, _, _, _, _, _, _⟩, hx10, _⟩
   simp only [*, ↓ZD, ZW, RO, simprocAttr]
   refine CallE.pair (i64_lit rfl) (fun he => ((hr9 he0).mono hx10)) (fun he => (hr10 he)) ‹_› ‹_› (by simp only [*, ↓ZD, ZW, RO, simprocAttr]) ?_
   rintro cs11 G11 hr11 ⟨_, ⟨_, _, _, _, _, _, _, _⟩, hx11, _⟩
   simp only [*, ↓ZD, ZW, RO, simprocAttr]
   refine invK.on ⟨p10, t, cs11, G11, twoX 11 x1 y, m⟩ ⟨hA10, hg.adv.go hR3, ‹_›, hr11, ⟨‹_›, ‹_›, ‹_›, ‹_›⟩, ‹_›, (by show m ≤ N; omega), hR4⟩ (by show m < m + 1; omega) (by simp only [*, ↓ZD, ZW, RO, simprocAttr]) (by simp only [*, ↓ZD, ZW, RO, simprocAttr])
  simp only [*, ↓ZD, ZW, RO, simprocAttr]
  refine CallQ.of _ (rIs_pure _ (hW.mono le_up) p [45]) ?_
  rcases tf (isS ws p [45]) with hi2 | hi2
  ·have ho : opAt ws 2 p = 12 := by simp only [opAt, hi, hi2]; rfl
   have hrg := isS_range hi2
   have hw1 : IntKind.i64.wrap (p.p + 1) = p.p + 1 := by rw [wrap_i64]; omega
   simp only [ho] at hR
   rw [if_neg (by decide)] at hR
   obtain ⟨⟨y, t⟩, hR3, hR4⟩ := bind_some hR
   clear hR
   simp only [*, ↓ZD, ZW, RO, simprocAttr]
   refine NewB.n ?_
   rintro b6 ⟨_, _, _, _, _, _, _, _, _, _, _⟩ _
   simp only [*, ↓ZD, ZW, RO, simprocAttr]
   refine CallE.rq (p := adv p) (s := adv p) ((h1 m (by omega)).mono hFF) Agr.rfl' hg.adv hR3 (by simp only [*, ↓ZD, ZW, RO, simprocAttr]) ?_
   rintro p10 cs10 G10 hA10 hr10 ⟨_, ⟨_, _, _, _, _, _, _⟩, hx10, _⟩
   simp only [*, ↓ZD, ZW, RO, simprocAttr]
   refine CallE.pair (i64_lit rfl) (fun he => ((hr9 he0).mono hx10)) (fun he => (hr10 he)) ‹_› ‹_› (by simp only [*, ↓ZD, ZW, RO, simprocAttr]) ?_
   rintro cs11 G11 hr11 ⟨_, ⟨_, _, _, _, _, _, _⟩, hx11, _⟩
   simp only [*, ↓ZD, ZW, RO, simprocAttr]
   refine invK.on ⟨p10, t, cs11, G11, twoX 12 x1 y, m⟩ ⟨hA10, hg.adv.go hR3, ‹_›, hr11, ⟨‹_›, ‹_›, ‹_›, ‹_›⟩, ‹_›, (by show m ≤ N; omega), hR4⟩ (by show m < m + 1; omega) (by simp only [*, ↓ZD, ZW, RO, simprocAttr]) (by simp only [*, ↓ZD, ZW, RO, simprocAttr])
  have ho : opAt ws 2 p = 0 := by simp only [opAt, hi, hi2]; rfl
  simp only [ho, if_true, Option.some.injEq, Prod.mk.injEq] at hR
  obtain ⟨rfl, rfl⟩ := hR
  simp only [*, ↓ZD, ZW, RO, simprocAttr]
  refine TreeL.open ?_
  simp only [*, ↓ZD, ZW, RO, simprocAttr]
  repeat' (first | exact RFin.g hA ‹_› hr9 ‹_› | apply And.intro)
 ·have hd : (p.e == 0) = false := by rw [hA.e]; simpa using he0
  obtain ⟨rfl, rfl⟩ := G_err he0 _ _ hR
  simp only [*, ↓ZD, ZW, RO, simprocAttr]
  refine TreeL.open ?_
  simp only [*, ↓ZD, ZW, RO, simprocAttr]
  repeat' (first | exact RFin.g hA ‹_› (fun h => absurd h he0) ‹_› | apply And.intro)
theorem rlev3_prs (F : Base) {ws : Ws} {l : Value} (hW : HasW F ws l) (N : Nat) (h1 : ∀ n ≤ N, RPrs F l 94 [.int .i64 3] (G ws n (lowN 3))) : RPrs F l 75 [.int .i64 3] (G ws (N + 1) (.lev 3)) := by
 intro F' hFF p s x s' hA hg hR
 have hW := hW.mono hFF
 have hol := hW.one'
 refine Does.rfin (does_of_svc (args := [PV l p, .int .i64 3]) mixed Tryz.func75 low75 (Nat.le_of_ble_eq_true rfl) fun w0 hw0 => ?_)
 simp only [*, fu75, ↓ZD, ZW, RO, simprocAttr]
 refine NewB.n ?_
 rintro b1 _ _
 simp only [*, ↓ZD, ZW, RO, simprocAttr]
 refine NewB.n ?_
 rintro b2 ⟨_, _, _⟩ _
 simp only [*, ↓ZD, ZW, RO, simprocAttr]
 refine NewB.n ?_
 rintro b3 ⟨_, _, _, _, _⟩ _
 simp only [*, ↓ZD, ZW, RO, simprocAttr]
 obtain ⟨x1, s1, -, hR1, hR2⟩ := row_split hR
 refine CallE.rq (h1 N (Nat.le_refl _) |>.mono hFF) hA hg hR1 (by simp only [*, ↓ZD, ZW, RO, simprocAttr]) ?_
 rintro p1 cs1 G1 hA1 hr1 ⟨_, ⟨_, _, _, _⟩, hx1, _⟩
 simp only [*, ↓ZD, ZW, RO, simprocAttr]
 refine NewB.n ?_
 rintro b4 ⟨_, _, _, _, _, _, _⟩ _
 simp only [*, ↓ZD, ZW, RO, simprocAttr]
 refine LoopL.inv (α := RowS) (RLvI ws F' b1 b2 b3 b4 N (.rows 3) x s') (fun y => [(1, some (.int .i64 3)), (2, some (.pointer (some ⟨b1, 0, none⟩))), (4, some (.pointer (some ⟨b2, 0, none⟩))), (5, some (.pointer (some ⟨b3, 0, none⟩))), (6, some (.pointer (some ⟨b4, 0, none⟩)))])
  (fun y => (b4, .cells y.cs.toArray 39 (0, 0)) :: (b3, .cells zx.toArray 39 (0, 0)) :: (b2, .cells zp.toArray 70 (0, 0)) :: (b1, .cells #[l, .int .i64 y.p.p, .int .i64 y.p.deep, .int .i64 y.p.e, .int .i64 y.p.bad] 70 (0, 0)) :: y.G) (fun y => y.m) ⟨p1, s1, cs1, G1, x1, N⟩ ⟨hA1, hg.go hR1, ‹_›, hr1, ⟨‹_›, ‹_›, ‹_›, ‹_›⟩, ‹_›, Nat.le_refl _, hR2⟩ (by simp only [*, ↓ZD, ZW, RO, simprocAttr]) (by simp only [*, ↓ZD, ZW, RO, simprocAttr]) ?_
 clear hR hR1 hR2 hA hg hA1 hr1 hx1
 rintro ⟨p, s, cs9, G9, x1, m⟩ ⟨hA, hg, hc9, hr9, ⟨_, _, _, _⟩, hw9, hm, hR⟩
 dsimp only at hA hg hc9 hr9 hw9 hm hR ⊢
 have hlen := hW.len
 by_cases he0 : s.e = 0
 ·obtain rfl := hA.ok he0
  have hd : (p.e == 0) = true := by simpa using he0
  obtain ⟨m, rfl⟩ : ∃ m', m = m' + 1 := by
   cases m with
   | zero => exact absurd he0 (G_zero hR).1
   | succ m => exact ⟨m, rfl⟩
  rw [G_succ, if_pos he0] at hR
  simp only [stepG] at hR
  replace he0 : id (p.e = 0) := he0
  simp only [*, ↓ZD, ZW, RO, simprocAttr]
  refine TreeL.open ?_
  simp only [*, ↓ZD, ZW, RO, simprocAttr]
  refine NewB.n ?_
  rintro b5 ⟨_, _, _, _, _, _, _, _, _⟩ _
  simp only [*, ↓ZD, ZW, RO, simprocAttr]
  refine CallQ.of _ (rIs_pure _ (hW.mono le_up) p [42]) ?_
  rcases tf (isS ws p [42]) with hi | hi
  ·have ho : opAt ws 3 p = 13 := if_pos hi
   have hrg := isS_range hi
   have hw1 : IntKind.i64.wrap (p.p + 1) = p.p + 1 := by rw [wrap_i64]; omega
   simp only [ho] at hR
   rw [if_neg (by decide)] at hR
   obtain ⟨⟨y, t⟩, hR3, hR4⟩ := bind_some hR
   clear hR
   simp only [*, ↓ZD, ZW, RO, simprocAttr]
   refine NewB.n ?_
   rintro b6 ⟨_, _, _, _, _, _, _, _, _, _, _⟩ _
   simp only [*, ↓ZD, ZW, RO, simprocAttr]
   refine CallQ.of (.bool false) trivial ?_
   simp only [*, ↓ZD, ZW, RO, simprocAttr]
   refine NewB.n ?_
   rintro b7 ⟨_, _, _, _, _, _, _, _, _, _, _, _, _⟩ _
   simp only [*, ↓ZD, ZW, RO, simprocAttr]
   refine CallE.rq (p := adv p) (s := adv p) ((h1 m (by omega)).mono hFF) Agr.rfl' hg.adv hR3 (by simp only [*, ↓ZD, ZW, RO, simprocAttr]) ?_
   rintro p10 cs10 G10 hA10 hr10 ⟨_, ⟨_, _, _, _, _, _, _, _⟩, hx10, _⟩
   simp only [*, ↓ZD, ZW, RO, simprocAttr]
   refine CallE.pair (i64_lit rfl) (fun he => ((hr9 he0).mono hx10)) (fun he => (hr10 he)) ‹_› ‹_› (by simp only [*, ↓ZD, ZW, RO, simprocAttr]) ?_
   rintro cs11 G11 hr11 ⟨_, ⟨_, _, _, _, _, _, _, _⟩, hx11, _⟩
   simp only [*, ↓ZD, ZW, RO, simprocAttr]
   refine invK.on ⟨p10, t, cs11, G11, twoX 13 x1 y, m⟩ ⟨hA10, hg.adv.go hR3, ‹_›, hr11, ⟨‹_›, ‹_›, ‹_›, ‹_›⟩, ‹_›, (by show m ≤ N; omega), hR4⟩ (by show m < m + 1; omega) (by simp only [*, ↓ZD, ZW, RO, simprocAttr]) (by simp only [*, ↓ZD, ZW, RO, simprocAttr])
  simp only [*, ↓ZD, ZW, RO, simprocAttr]
  have ho : opAt ws 3 p = 0 := if_neg (by rw [hi]; decide)
  simp only [ho, if_true, Option.some.injEq, Prod.mk.injEq] at hR
  obtain ⟨rfl, rfl⟩ := hR
  refine CallQ.of (.bool false) trivial ?_
  simp only [*, ↓ZD, ZW, RO, simprocAttr]
  refine TreeL.open ?_
  simp only [*, ↓ZD, ZW, RO, simprocAttr]
  repeat' (first | exact RFin.g hA ‹_› hr9 ‹_› | apply And.intro)
 ·have hd : (p.e == 0) = false := by rw [hA.e]; simpa using he0
  obtain ⟨rfl, rfl⟩ := G_err he0 _ _ hR
  simp only [*, ↓ZD, ZW, RO, simprocAttr]
  refine TreeL.open ?_
  simp only [*, ↓ZD, ZW, RO, simprocAttr]
  repeat' (first | exact RFin.g hA ‹_› (fun h => absurd h he0) ‹_› | apply And.intro)
end Go.Proofs.YtnenbihkcjgddaaGreatDoor
