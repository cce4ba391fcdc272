/- Joined. -/
import Derived.Test.YtnenbihkcjgddaaGreatDoorJd
set_option linter.unusedSectionVars false
namespace Go.Proofs.YtnenbihkcjgddaaGreatDoor
open Go Go.Eng
set_option maxHeartbeats 1000000
set_option linter.unusedSimpArgs false
set_option linter.unusedVariables false
set_option maxRecDepth 20000
theorem runary_prs (F : Base) {ws : Ws} (hws : WsOk ws) {l : Value} (hW : HasW F ws l) (k : NT → St → Option (Ex' × St)) (hgo : GoesOn k) (h1 : RPrs F l 106 [] (k .unary)) (h2 : RPrs F l 118 [] (k .member)) : RPrs F l 106 [] (nestR ws (prefG ws k)) := by
 intro F' hFF p s x s' hA hg hR
 have hW := hW.mono hFF
 have hol := hW.one'
 refine Does.rfin (does_of_svc (args := [PV l p]) mixed Tryz.func106 low106 (Nat.le_of_ble_eq_true rfl) fun w0 hw0 => ?_)
 simp only [*, fu106, ↓ZD, ZW, RO, simprocAttr]
 refine NewB.n ?_
 rintro b1 _ _
 simp only [*, ↓ZD, ZW, RO, simprocAttr]
 refine NewB.n ?_
 rintro b2 ⟨_, _, _⟩ _
 simp only [*, ↓ZD, ZW, RO, simprocAttr]
 refine NewB.n ?_
 rintro b3 ⟨_, _, _, _, _⟩ _
 simp only [*, ↓ZD, ZW, RO, simprocAttr]
 refine CallE.pure (rdown_pure _ hW p) ?_
 rcases enter (fun s y => goes_pref hgo) hR hA hg with ⟨he, hAq, he'⟩ | ⟨hq, hgq, t, hR, hf, rfl, rfl, he'⟩
 ·generalize downS ws p = q at *
  have hd : (q.e != 0) = true := by simpa using he
  simp only [*, ↓ZD, ZW, RO, simprocAttr]
  exact RFin.m [] hAq ⟨rfl, rfl, rfl, rfl⟩ (fun h => absurd h he') Wk.nil all_nil
 rw [hq]
 have hd : ((inn p).e != 0) = false := by show (p.e != 0) = false; simpa using he'
 have hqe : (inn p).e = p.e ∧ (inn p).deep = p.deep + 1 := ⟨rfl, rfl⟩
 clear hq
 generalize inn p = q at *
 have hf2 : t.e = 0 → p.e = 0 ∧ t.deep = p.deep + 1 := fun he => ⟨hqe.1 ▸ (hf he).1, (hf he).2.2.trans hqe.2⟩
 clear hf hqe
 simp only [*, ↓ZD, ZW, RO, simprocAttr]
 refine NewB.n ?_
 rintro b4 ⟨_, _, _, _, _, _, _⟩ _
 simp only [*, ↓ZD, ZW, RO, simprocAttr]
 have hlen := hW.len
 refine CallE.pure (rIs_pure _ hW q [33]) ?_
 simp only [*, ↓ZD, ZW, RO, simprocAttr]
 refine CallE.pure (rIs_pure _ hW q [45]) ?_
 unfold prefG at hR
 rcases tf (isS ws q [33]) with hi | hi
 ·have hi2 : isS ws q [45] = false := isS_ne hi (by decide)
  rw [hi2]
  rw [hi, if_pos rfl] at hR
  obtain ⟨⟨x1, s1⟩, hR1, hR⟩ := map_some' hR
  simp only [Prod.mk.injEq] at hR
  obtain ⟨rfl, rfl⟩ := hR
  have hrg := isS_range hi
  have hw1 : IntKind.i64.wrap (q.p + 1) = q.p + 1 := by rw [wrap_i64]; omega
  simp only [*, ↓ZD, ZW, RO, simprocAttr]
  refine CallE.rq (p := adv q) (s := adv q) (h1.mono hFF) Agr.rfl' hgq.adv hR1 (by simp only [*, ↓ZD, ZW, RO, simprocAttr]) ?_
  rintro p1 cs1 G1 hA1 hr1 ⟨_, ⟨_, _, _, _, _⟩, hx1, _⟩
  simp only [*, ↓ZD, ZW, RO, simprocAttr]
  refine CallE.alone (i64_lit rfl) (fun he => (hr1 he)) ‹_› (by simp only [*, ↓ZD, ZW, RO, simprocAttr]) ?_
  rintro cs2 G2 hr2 ⟨_, ⟨_, _, _, _, _⟩, hx2, _⟩
  simp only [*, ↓ZD, ZW, RO, simprocAttr]
  refine TreeL.open ?_
  simp only [*, ↓ZD, ZW, RO, simprocAttr]
  repeat' (first | exact RFin.g (outW_agr hA1 hg hf2) ‹_› hr2 ‹_› | apply And.intro)
 rw [hi, if_neg (by decide)] at hR
 rcases tf (isS ws q [45]) with hi2 | hi2
 ·rw [hi2, if_pos rfl] at hR
  obtain ⟨⟨x1, s1⟩, hR1, hR⟩ := map_some' hR
  simp only [Prod.mk.injEq] at hR
  obtain ⟨rfl, rfl⟩ := hR
  have hrg := isS_range hi2
  have hw1 : IntKind.i64.wrap (q.p + 1) = q.p + 1 := by rw [wrap_i64]; omega
  simp only [*, ↓ZD, ZW, RO, simprocAttr]
  refine CallE.rq (p := adv q) (s := adv q) (h1.mono hFF) Agr.rfl' hgq.adv hR1 (by simp only [*, ↓ZD, ZW, RO, simprocAttr]) ?_
  rintro p1 cs1 G1 hA1 hr1 ⟨_, ⟨_, _, _, _, _⟩, hx1, _⟩
  simp only [*, ↓ZD, ZW, RO, simprocAttr]
  refine CallE.alone (i64_lit rfl) (fun he => (hr1 he)) ‹_› (by simp only [*, ↓ZD, ZW, RO, simprocAttr]) ?_
  rintro cs2 G2 hr2 ⟨_, ⟨_, _, _, _, _⟩, hx2, _⟩
  simp only [*, ↓ZD, ZW, RO, simprocAttr]
  refine TreeL.open ?_
  simp only [*, ↓ZD, ZW, RO, simprocAttr]
  repeat' (first | exact RFin.g (outW_agr hA1 hg hf2) ‹_› hr2 ‹_› | apply And.intro)
 rw [hi2, if_neg (by decide)] at hR
 simp only [*, ↓ZD, ZW, RO, simprocAttr]
 refine CallE.rq (p := q) (s := q) (h2.mono hFF) Agr.rfl' hgq hR (by simp only [*, ↓ZD, ZW, RO, simprocAttr]) ?_
 rintro p1 cs1 G1 hA1 hr1 ⟨_, ⟨_, _, _, _, _⟩, hx1, _⟩
 simp only [*, ↓ZD, ZW, RO, simprocAttr]
 refine TreeL.open ?_
 simp only [*, ↓ZD, ZW, RO, simprocAttr]
 repeat' (first | exact RFin.g (outW_agr hA1 hg hf2) ‹_› hr1 ‹_› | apply And.intro)
def relT (ws : Ws) (g : NT → St → Option (Ex' × St)) (x : Ex') (s : St) : Option (Ex' × St) :=
 if isS ws s [61, 61] then (g (.lev 2) (adv s)).map fun b => (twoX 8 x b.1, b.2)
 else if isS ws s [33, 61] then (g (.lev 2) (adv s)).map fun b => (oneX' 6 [] (twoX 8 x b.1), b.2)
 else if isS ws s [60] then (g (.lev 2) (adv s)).map fun b => (twoX 9 x b.1, b.2)
 else if isS ws s [60, 61] then (g (.lev 2) (adv s)).map fun b => (twoX 10 x b.1, b.2)
 else if isS ws s [62] then (g (.lev 2) (adv s)).map fun b => (twoX 9 b.1 x, b.2)
 else if isS ws s [62, 61] then (g (.lev 2) (adv s)).map fun b => (twoX 10 b.1 x, b.2)
 else if isS ws s [105, 110] then (g (.lev 2) (adv s)).map fun b => (twoX 15 x b.1, b.2)
 else if isS ws s [104, 97, 115] then some (oneX' 17 (takeS ws (adv s) 1).1 x, (takeS ws (adv s) 1).2)
 else if isS ws s [105, 115] then some (oneX' 16 (pathS ws (adv s)).1 x, (pathS ws (adv s)).2)
 else some (x, s)
theorem rel_split {ws : Ws} {n : Nat} {s s' : St} {x : Ex'} (h : (if s.e = 0 then relG ws (G ws n) s else some (nilX, s)) = some (x, s')) : ∃ x1 s1, G ws n (.lev 2) s = some (x1, s1) ∧ relT ws (G ws n) x1 s1 = some (x, s') := by
 split at h
 ·obtain ⟨⟨x1, s1⟩, h1, h2⟩ := bind_some h
  exact ⟨x1, s1, h1, h2⟩
 ·rename_i he
  simp only [Option.some.injEq, Prod.mk.injEq] at h
  obtain ⟨rfl, rfl⟩ := h
  refine ⟨nilX, s, G_at he, ?_⟩
  simp only [relT, isS_err he]
  rfl
set_option maxHeartbeats 8000000 in
theorem rrel_prs (F : Base) {ws : Ws} (hws : WsOk ws) {l : Value} (hW : HasW F ws l) (n : Nat) (h1 : RPrs F l 75 [.int .i64 2] (G ws n (.lev 2))) : RPrs F l 105 [] (fun s => if s.e = 0 then relG ws (G ws n) s else some (nilX, s)) := by
 intro F' hFF p s x s' hA hg hR
 have hW := hW.mono hFF
 have hol := hW.one'
 refine Does.rfin (does_of_svc (args := [PV l p]) mixed Tryz.func105 low105 (Nat.le_of_ble_eq_true rfl) fun w0 hw0 => ?_)
 simp only [*, fu105, ↓ZD, ZW, RO, simprocAttr]
 refine NewB.n ?_
 rintro b1 _ _
 simp only [*, ↓ZD, ZW, RO, simprocAttr]
 refine NewB.n ?_
 rintro b2 ⟨_, _, _⟩ _
 simp only [*, ↓ZD, ZW, RO, simprocAttr]
 refine NewB.n ?_
 rintro b3 ⟨_, _, _, _, _⟩ _
 simp only [*, ↓ZD, ZW, RO, simprocAttr]
 obtain ⟨x1, s1, hR1, hR2⟩ := rel_split hR
 clear hR
 refine CallE.rq (h1.mono hFF) hA hg hR1 (by simp only [*, ↓ZD, ZW, RO, simprocAttr]) ?_
 rintro p1 cs1 G1 hA1 hr1 ⟨_, ⟨_, _, _, _⟩, hx1, _⟩
 simp only [*, ↓ZD, ZW, RO, simprocAttr]
 refine NewB.n ?_
 rintro b4 ⟨_, _, _, _, _, _, _⟩ _
 simp only [*, ↓ZD, ZW, RO, simprocAttr]
 have hgs := hg.go hR1
 have hlen := hW.len
 clear hA hg hR1
 refine CallE.pure (rword_pure _ hW p1) ?_
 simp only [*, wdV, ↓ZD, ZW, RO, simprocAttr]
 refine NewB.n ?_
 rintro b5 ⟨_, _, _, _, _, _, _, _, _⟩ _
 simp only [*, wdV, ↓ZD, ZW, RO, simprocAttr]
 by_cases hc : s1.e = 0 ∧ (wk ws p1 = 5 ∨ wk ws p1 = 1)
 ·obtain rfl := hA1.ok hc.1
  have hd : (p1.e != 0 || ((((wdAt ws p1.p).1.1 : Nat) : Int) != 1 && (((wdAt ws p1.p).1.1 : Nat) : Int) != 5)) = false := by obtain ⟨h1, h2⟩ := hc; unfold wk at h2; rcases h2 with h2 | h2 <;> rw [h1, h2] <;> rfl
  have hk : ∀ t, isS ws p1 t = ((wdAt ws p1.p).1.2.1 == t) := fun t => by
   have : (p1.e == 0 && (wk ws p1 == 5 || wk ws p1 == 1)) = true := by
    rw [Bool.and_eq_true, Bool.or_eq_true, beq_iff_eq, beq_iff_eq, beq_iff_eq]; exact hc
   unfold isS; rw [this]; rfl
  replace hc : id (p1.e = 0) := hc.1
  have hw1 : ∀ t, ((wdAt ws p1.p).1.2.1 == t) = true → IntKind.i64.wrap (p1.p + 1) = p1.p + 1 := fun t h => by
   have := isS_range ((hk t).trans h); rw [wrap_i64]; omega
  simp only [relT, hk] at hR2
  rcases tf ((wdAt ws p1.p).1.2.1 == [104, 97, 115]) with hT | hT0
  ·have hw1 := hw1 _ hT
   clear hk
   have hx : (wdAt ws p1.p).1.2.1 = [104, 97, 115] := beq_iff_eq.1 hT
   clear hT
   simp only [hx] at hR2
   rw [if_neg (by decide), if_neg (by decide), if_neg (by decide), if_neg (by decide), if_neg (by decide), if_neg (by decide), if_neg (by decide), if_pos (by decide)] at hR2
   simp only [*, wdV, BQ, ↓ZD, ZW, RO, simprocAttr]
   refine NewB.n ?_
   rintro b6 ⟨_, _, _, _, _, _, _, _, _, _, _⟩ _
   simp only [*, wdV, BQ, ↓ZD, ZW, RO, simprocAttr]
   refine CallE.pure (rtake_pure _ hW (adv p1) 1 (by decide)) ?_
   simp only [*, wdV, BQ, ↓ZD, ZW, RO, simprocAttr]
   refine TreeL.open ?_
   simp only [*, wdV, BQ, ↓ZD, ZW, RO, simprocAttr]
   repeat' (refine And.intro ?_ ?_)
   all_goals (
    refine NewB.n ?_
    rintro b7 ⟨_, _, _, _, _, _, _, _, _, _, _, _, _⟩ _
    simp only [*, wdV, BQ, ↓ZD, ZW, RO, simprocAttr]
    simp only [Option.some.injEq, Prod.mk.injEq] at hR2
    obtain ⟨rfl, rfl⟩ := hR2
    repeat' (first | exact RFin.m _ Agr.rfl' ⟨rfl, rfl, rfl, rfl⟩ (fun he => rep_one (T := 39) ‹_› ‹_› (i64_lit rfl) (hr1 hc)) (Wk.cb ‹_› ‹_›) (by simp +contextual) | apply And.intro))
  rcases tf ((wdAt ws p1.p).1.2.1 == [105, 115]) with hT | hT1
  ·have hw1 := hw1 _ hT
   clear hk
   have hx : (wdAt ws p1.p).1.2.1 = [105, 115] := beq_iff_eq.1 hT
   clear hT hT0
   simp only [hx] at hR2
   rw [if_neg (by decide), if_neg (by decide), if_neg (by decide), if_neg (by decide), if_neg (by decide), if_neg (by decide), if_neg (by decide), if_neg (by decide), if_pos (by decide)] at hR2
   simp only [*, wdV, BQ, ↓ZD, ZW, RO, simprocAttr]
   refine NewB.n ?_
   rintro b6 ⟨_, _, _, _, _, _, _, _, _, _, _⟩ _
   simp only [*, wdV, BQ, ↓ZD, ZW, RO, simprocAttr]
   refine CallE.pure (rpath_pure _ hws hW (adv p1)) ?_
   simp only [*, wdV, BQ, ↓ZD, ZW, RO, simprocAttr]
   refine TreeL.open ?_
   simp only [*, wdV, BQ, ↓ZD, ZW, RO, simprocAttr]
   repeat' (refine And.intro ?_ ?_)
   all_goals (
    refine NewB.n ?_
    rintro b7 ⟨_, _, _, _, _, _, _, _, _, _, _, _, _⟩ _
    simp only [*, wdV, BQ, ↓ZD, ZW, RO, simprocAttr]
    simp only [Option.some.injEq, Prod.mk.injEq] at hR2
    obtain ⟨rfl, rfl⟩ := hR2
    repeat' (first | exact RFin.m _ Agr.rfl' ⟨rfl, rfl, rfl, rfl⟩ (fun he => rep_one (T := 39) ‹_› ‹_› (i64_lit rfl) (hr1 hc)) (Wk.cb ‹_› ‹_›) (by simp +contextual) | apply And.intro))
  rcases tf ((wdAt ws p1.p).1.2.1 == [61, 61]) with hT | hT2
  ·have hw1 := hw1 _ hT
   clear hk
   have hx : (wdAt ws p1.p).1.2.1 = [61, 61] := beq_iff_eq.1 hT
   clear hT hT0 hT1
   simp only [hx] at hR2
   rw [if_pos (by decide)] at hR2
   simp only [*, wdV, BQ, ↓ZD, ZW, RO, simprocAttr]
   refine NewB.n ?_
   rintro b6 ⟨_, _, _, _, _, _, _, _, _, _, _⟩ _
   simp only [*, wdV, BQ, ↓ZD, ZW, RO, simprocAttr]
   obtain ⟨⟨x2, s2⟩, hR3, hR2⟩ := map_some' hR2
   simp only [Prod.mk.injEq] at hR2
   obtain ⟨rfl, rfl⟩ := hR2
   refine CallE.rq (p := adv p1) (s := adv p1) (h1.mono hFF) Agr.rfl' hgs.adv hR3 (by simp only [*, ↓ZD, ZW, RO, simprocAttr]) ?_
   rintro p2 cs2 G2 hA2 hr2 ⟨_, ⟨_, _, _, _, _, _, _⟩, hx2, _⟩
   simp only [*, wdV, BQ, ↓ZD, ZW, RO, simprocAttr]
   refine CallN.pair (i64_lit rfl) (fun he => ((hr1 hc).mono hx2)) (fun he => (hr2 he)) ‹_› ‹_› (by simp only [*, ↓ZD, ZW, RO, simprocAttr]) ?_
   rintro cs3 G3 hr3 ⟨_, ⟨_, _, _, _, _, _, _⟩, hx3, _⟩
   simp only [*, wdV, BQ, ↓ZD, ZW, RO, simprocAttr]
   repeat' (first | exact RFin.g hA2 ‹_› hr3 ‹_› | apply And.intro)
  rcases tf ((wdAt ws p1.p).1.2.1 == [33, 61]) with hT | hT3
  ·have hw1 := hw1 _ hT
   clear hk
   have hx : (wdAt ws p1.p).1.2.1 = [33, 61] := beq_iff_eq.1 hT
   clear hT hT0 hT1 hT2
   simp only [hx] at hR2
   rw [if_neg (by decide), if_pos (by decide)] at hR2
   simp only [*, wdV, BQ, ↓ZD, ZW, RO, simprocAttr]
   refine NewB.n ?_
   rintro b6 ⟨_, _, _, _, _, _, _, _, _, _, _⟩ _
   simp only [*, wdV, BQ, ↓ZD, ZW, RO, simprocAttr]
   obtain ⟨⟨x2, s2⟩, hR3, hR2⟩ := map_some' hR2
   simp only [Prod.mk.injEq] at hR2
   obtain ⟨rfl, rfl⟩ := hR2
   refine CallE.rq (p := adv p1) (s := adv p1) (h1.mono hFF) Agr.rfl' hgs.adv hR3 (by simp only [*, ↓ZD, ZW, RO, simprocAttr]) ?_
   rintro p2 cs2 G2 hA2 hr2 ⟨_, ⟨_, _, _, _, _, _, _⟩, hx2, _⟩
   simp only [*, wdV, BQ, ↓ZD, ZW, RO, simprocAttr]
   refine CallN.pair (i64_lit rfl) (fun he => ((hr1 hc).mono hx2)) (fun he => (hr2 he)) ‹_› ‹_› (by simp only [*, ↓ZD, ZW, RO, simprocAttr]) ?_
   rintro cs3 G3 hr3 ⟨_, ⟨_, _, _, _, _, _, _⟩, hx3, _⟩
   simp only [*, wdV, BQ, ↓ZD, ZW, RO, simprocAttr]
   refine CallN.alone (i64_lit rfl) (fun he => (hr3 he)) ‹_› (by simp only [*, ↓ZD, ZW, RO, simprocAttr]) ?_
   rintro cs4 G4 hr4 ⟨_, ⟨_, _, _, _, _, _, _⟩, hx4, _⟩
   simp only [*, wdV, BQ, ↓ZD, ZW, RO, simprocAttr]
   repeat' (first | exact RFin.g hA2 ‹_› hr4 ‹_› | apply And.intro)
  rcases tf ((wdAt ws p1.p).1.2.1 == [60]) with hT | hT4
  ·have hw1 := hw1 _ hT
   clear hk
   have hx : (wdAt ws p1.p).1.2.1 = [60] := beq_iff_eq.1 hT
   clear hT hT0 hT1 hT2 hT3
   simp only [hx] at hR2
   rw [if_neg (by decide), if_neg (by decide), if_pos (by decide)] at hR2
   simp only [*, wdV, BQ, ↓ZD, ZW, RO, simprocAttr]
   refine NewB.n ?_
   rintro b6 ⟨_, _, _, _, _, _, _, _, _, _, _⟩ _
   simp only [*, wdV, BQ, ↓ZD, ZW, RO, simprocAttr]
   obtain ⟨⟨x2, s2⟩, hR3, hR2⟩ := map_some' hR2
   simp only [Prod.mk.injEq] at hR2
   obtain ⟨rfl, rfl⟩ := hR2
   refine CallE.rq (p := adv p1) (s := adv p1) (h1.mono hFF) Agr.rfl' hgs.adv hR3 (by simp only [*, ↓ZD, ZW, RO, simprocAttr]) ?_
   rintro p2 cs2 G2 hA2 hr2 ⟨_, ⟨_, _, _, _, _, _, _⟩, hx2, _⟩
   simp only [*, wdV, BQ, ↓ZD, ZW, RO, simprocAttr]
   refine CallN.pair (i64_lit rfl) (fun he => ((hr1 hc).mono hx2)) (fun he => (hr2 he)) ‹_› ‹_› (by simp only [*, ↓ZD, ZW, RO, simprocAttr]) ?_
   rintro cs3 G3 hr3 ⟨_, ⟨_, _, _, _, _, _, _⟩, hx3, _⟩
   simp only [*, wdV, BQ, ↓ZD, ZW, RO, simprocAttr]
   repeat' (first | exact RFin.g hA2 ‹_› hr3 ‹_› | apply And.intro)
  rcases tf ((wdAt ws p1.p).1.2.1 == [60, 61]) with hT | hT5
  ·have hw1 := hw1 _ hT
   clear hk
   have hx : (wdAt ws p1.p).1.2.1 = [60, 61] := beq_iff_eq.1 hT
   clear hT hT0 hT1 hT2 hT3 hT4
   simp only [hx] at hR2
   rw [if_neg (by decide), if_neg (by decide), if_neg (by decide), if_pos (by decide)] at hR2
   simp only [*, wdV, BQ, ↓ZD, ZW, RO, simprocAttr]
   refine NewB.n ?_
   rintro b6 ⟨_, _, _, _, _, _, _, _, _, _, _⟩ _
   simp only [*, wdV, BQ, ↓ZD, ZW, RO, simprocAttr]
   obtain ⟨⟨x2, s2⟩, hR3, hR2⟩ := map_some' hR2
   simp only [Prod.mk.injEq] at hR2
   obtain ⟨rfl, rfl⟩ := hR2
   refine CallE.rq (p := adv p1) (s := adv p1) (h1.mono hFF) Agr.rfl' hgs.adv hR3 (by simp only [*, ↓ZD, ZW, RO, simprocAttr]) ?_
   rintro p2 cs2 G2 hA2 hr2 ⟨_, ⟨_, _, _, _, _, _, _⟩, hx2, _⟩
   simp only [*, wdV, BQ, ↓ZD, ZW, RO, simprocAttr]
   refine CallN.pair (i64_lit rfl) (fun he => ((hr1 hc).mono hx2)) (fun he => (hr2 he)) ‹_› ‹_› (by simp only [*, ↓ZD, ZW, RO, simprocAttr]) ?_
   rintro cs3 G3 hr3 ⟨_, ⟨_, _, _, _, _, _, _⟩, hx3, _⟩
   simp only [*, wdV, BQ, ↓ZD, ZW, RO, simprocAttr]
   repeat' (first | exact RFin.g hA2 ‹_› hr3 ‹_› | apply And.intro)
  rcases tf ((wdAt ws p1.p).1.2.1 == [62]) with hT | hT6
  ·have hw1 := hw1 _ hT
   clear hk
   have hx : (wdAt ws p1.p).1.2.1 = [62] := beq_iff_eq.1 hT
   clear hT hT0 hT1 hT2 hT3 hT4 hT5
   simp only [hx] at hR2
   rw [if_neg (by decide), if_neg (by decide), if_neg (by decide), if_neg (by decide), if_pos (by decide)] at hR2
   simp only [*, wdV, BQ, ↓ZD, ZW, RO, simprocAttr]
   refine NewB.n ?_
   rintro b6 ⟨_, _, _, _, _, _, _, _, _, _, _⟩ _
   simp only [*, wdV, BQ, ↓ZD, ZW, RO, simprocAttr]
   obtain ⟨⟨x2, s2⟩, hR3, hR2⟩ := map_some' hR2
   simp only [Prod.mk.injEq] at hR2
   obtain ⟨rfl, rfl⟩ := hR2
   refine CallE.rq (p := adv p1) (s := adv p1) (h1.mono hFF) Agr.rfl' hgs.adv hR3 (by simp only [*, ↓ZD, ZW, RO, simprocAttr]) ?_
   rintro p2 cs2 G2 hA2 hr2 ⟨_, ⟨_, _, _, _, _, _, _⟩, hx2, _⟩
   simp only [*, wdV, BQ, ↓ZD, ZW, RO, simprocAttr]
   refine CallN.pair (i64_lit rfl) (fun he => (hr2 he)) (fun he => ((hr1 hc).mono hx2)) ‹_› ‹_› (by simp only [*, ↓ZD, ZW, RO, simprocAttr]) ?_
   rintro cs3 G3 hr3 ⟨_, ⟨_, _, _, _, _, _, _⟩, hx3, _⟩
   simp only [*, wdV, BQ, ↓ZD, ZW, RO, simprocAttr]
   repeat' (first | exact RFin.g hA2 ‹_› hr3 ‹_› | apply And.intro)
  rcases tf ((wdAt ws p1.p).1.2.1 == [62, 61]) with hT | hT7
  ·have hw1 := hw1 _ hT
   clear hk
   have hx : (wdAt ws p1.p).1.2.1 = [62, 61] := beq_iff_eq.1 hT
   clear hT hT0 hT1 hT2 hT3 hT4 hT5 hT6
   simp only [hx] at hR2
   rw [if_neg (by decide), if_neg (by decide), if_neg (by decide), if_neg (by decide), if_neg (by decide), if_pos (by decide)] at hR2
   simp only [*, wdV, BQ, ↓ZD, ZW, RO, simprocAttr]
   refine NewB.n ?_
   rintro b6 ⟨_, _, _, _, _, _, _, _, _, _, _⟩ _
   simp only [*, wdV, BQ, ↓ZD, ZW, RO, simprocAttr]
   obtain ⟨⟨x2, s2⟩, hR3, hR2⟩ := map_some' hR2
   simp only [Prod.mk.injEq] at hR2
   obtain ⟨rfl, rfl⟩ := hR2
   refine CallE.rq (p := adv p1) (s := adv p1) (h1.mono hFF) Agr.rfl' hgs.adv hR3 (by simp only [*, ↓ZD, ZW, RO, simprocAttr]) ?_
   rintro p2 cs2 G2 hA2 hr2 ⟨_, ⟨_, _, _, _, _, _, _⟩, hx2, _⟩
   simp only [*, wdV, BQ, ↓ZD, ZW, RO, simprocAttr]
   refine CallN.pair (i64_lit rfl) (fun he => (hr2 he)) (fun he => ((hr1 hc).mono hx2)) ‹_› ‹_› (by simp only [*, ↓ZD, ZW, RO, simprocAttr]) ?_
   rintro cs3 G3 hr3 ⟨_, ⟨_, _, _, _, _, _, _⟩, hx3, _⟩
   simp only [*, wdV, BQ, ↓ZD, ZW, RO, simprocAttr]
   repeat' (first | exact RFin.g hA2 ‹_› hr3 ‹_› | apply And.intro)
  rcases tf ((wdAt ws p1.p).1.2.1 == [105, 110]) with hT | hT8
  ·have hw1 := hw1 _ hT
   clear hk
   have hx : (wdAt ws p1.p).1.2.1 = [105, 110] := beq_iff_eq.1 hT
   clear hT hT0 hT1 hT2 hT3 hT4 hT5 hT6 hT7
   simp only [hx] at hR2
   rw [if_neg (by decide), if_neg (by decide), if_neg (by decide), if_neg (by decide), if_neg (by decide), if_neg (by decide), if_pos (by decide)] at hR2
   simp only [*, wdV, BQ, ↓ZD, ZW, RO, simprocAttr]
   refine NewB.n ?_
   rintro b6 ⟨_, _, _, _, _, _, _, _, _, _, _⟩ _
   simp only [*, wdV, BQ, ↓ZD, ZW, RO, simprocAttr]
   obtain ⟨⟨x2, s2⟩, hR3, hR2⟩ := map_some' hR2
   simp only [Prod.mk.injEq] at hR2
   obtain ⟨rfl, rfl⟩ := hR2
   refine CallE.rq (p := adv p1) (s := adv p1) (h1.mono hFF) Agr.rfl' hgs.adv hR3 (by simp only [*, ↓ZD, ZW, RO, simprocAttr]) ?_
   rintro p2 cs2 G2 hA2 hr2 ⟨_, ⟨_, _, _, _, _, _, _⟩, hx2, _⟩
   simp only [*, wdV, BQ, ↓ZD, ZW, RO, simprocAttr]
   refine CallN.pair (i64_lit rfl) (fun he => ((hr1 hc).mono hx2)) (fun he => (hr2 he)) ‹_› ‹_› (by simp only [*, ↓ZD, ZW, RO, simprocAttr]) ?_
   rintro cs3 G3 hr3 ⟨_, ⟨_, _, _, _, _, _, _⟩, hx3, _⟩
   simp only [*, wdV, BQ, ↓ZD, ZW, RO, simprocAttr]
   repeat' (first | exact RFin.g hA2 ‹_› hr3 ‹_› | apply And.intro)
  simp only [hT0, hT1, hT2, hT3, hT4, hT5, hT6, hT7, hT8, Bool.false_eq_true, if_false] at hR2
  simp only [Option.some.injEq, Prod.mk.injEq] at hR2
  obtain ⟨rfl, rfl⟩ := hR2
  simp only [*, wdV, ↓ZD, ZW, RO, simprocAttr]
  refine NewB.n ?_
  rintro b6 ⟨_, _, _, _, _, _, _, _, _, _, _⟩ _
  simp only [*, wdV, ↓ZD, ZW, RO, simprocAttr]
  refine TreeL.open ?_
  simp only [*, wdV, ↓ZD, ZW, RO, simprocAttr]
  repeat' (first | exact RFin.g hA1 ‹_› hr1 ‹_› | apply And.intro)
 ·have hk : ∀ t, isS ws s1 t = false := fun t => by
   by_cases he : s1.e = 0
   ·obtain rfl := hA1.ok he
    have : (p1.e == 0 && (wk ws p1 == 5 || wk ws p1 == 1)) = false := by
     rw [Bool.eq_false_iff]; intro h
     rw [Bool.and_eq_true, Bool.or_eq_true, beq_iff_eq, beq_iff_eq, beq_iff_eq] at h; exact hc h
    unfold isS; rw [this]; rfl
   ·exact isS_err he
  have hd : (p1.e != 0 || ((((wdAt ws p1.p).1.1 : Nat) : Int) != 1 && (((wdAt ws p1.p).1.1 : Nat) : Int) != 5)) = true := by
   rw [Bool.or_eq_true, Bool.and_eq_true, bne_iff_ne, bne_iff_ne, bne_iff_ne, hA1.e]
   by_cases he : s1.e = 0
   ·exact .inr ⟨fun h => hc ⟨he, .inr h⟩, fun h => hc ⟨he, .inl h⟩⟩
   ·exact .inl he
  clear hc
  simp only [relT, hk, Bool.false_eq_true, if_false, Option.some.injEq, Prod.mk.injEq] at hR2
  obtain ⟨rfl, rfl⟩ := hR2
  simp only [*, wdV, ↓ZD, ZW, RO, simprocAttr]
  refine TreeL.open ?_
  simp only [*, ↓ZD, ZW, RO, simprocAttr]
  repeat' (first | exact RFin.g hA1 ‹_› hr1 ‹_› | apply And.intro)
end Go.Proofs.YtnenbihkcjgddaaGreatDoor
namespace Go.Proofs.YtnenbihkcjgddaaGreatDoor
open Go Go.Eng
set_option maxHeartbeats 1000000
set_option linter.unusedSimpArgs false
set_option linter.unusedVariables false
set_option maxRecDepth 20000
theorem rmember_prs (F : Base) {ws : Ws} {l : Value} (hW : HasW F ws l) (N : Nat) (h1 : RPrs F l 125 [] (G ws N .prim)) (h2 : ∀ n ≤ N, RPrs F l 41 [] (G ws n .expr)) : RPrs F l 118 [] (G ws (N + 1) .member) := by
 intro F' hFF p s x s' hA hg hR
 have hW := hW.mono hFF
 have hol := hW.one'
 refine Does.rfin (does_of_svc (args := [PV l p]) mixed Tryz.func118 low118 (Nat.le_of_ble_eq_true rfl) fun w0 hw0 => ?_)
 simp only [*, fu118, ↓ZD, ZW, RO, simprocAttr]
 refine NewB.n ?_
 rintro b1 _ _
 simp only [*, ↓ZD, ZW, RO, simprocAttr]
 refine NewB.n ?_
 rintro b2 ⟨_, _, _⟩ _
 simp only [*, ↓ZD, ZW, RO, simprocAttr]
 refine NewB.n ?_
 rintro b3 ⟨_, _, _, _, _⟩ _
 simp only [*, ↓ZD, ZW, RO, simprocAttr]
 obtain ⟨x1, s1, hR1, hR2⟩ := mem_split hR
 refine CallE.rq (h1.mono hFF) hA hg hR1 (by simp only [*, ↓ZD, ZW, RO, simprocAttr]) ?_
 rintro p1 cs1 G1 hA1 hr1 ⟨_, ⟨_, _, _, _⟩, hx1, _⟩
 simp only [*, ↓ZD, ZW, RO, simprocAttr]
 refine NewB.n ?_
 rintro b4 ⟨_, _, _, _, _, _, _⟩ _
 simp only [*, ↓ZD, ZW, RO, simprocAttr]
 refine LoopL.inv (α := RowS) (RLvI ws F' b1 b2 b3 b4 N .mems x s') (fun y => [(1, some (.pointer (some ⟨b1, 0, none⟩))), (2, some (.pointer (some ⟨b2, 0, none⟩))), (3, some (.pointer (some ⟨b3, 0, none⟩))), (4, some (.pointer (some ⟨b4, 0, none⟩)))])
  (fun y => (b4, .cells y.cs.toArray 39 (0, 0)) :: (b3, .cells zx.toArray 39 (0, 0)) :: (b2, .cells zp.toArray 70 (0, 0)) :: (b1, .cells #[l, .int .i64 y.p.p, .int .i64 y.p.deep, .int .i64 y.p.e, .int .i64 y.p.bad] 70 (0, 0)) :: y.G) (fun y => y.m) ⟨p1, s1, cs1, G1, x1, N⟩ ⟨hA1, hg.go hR1, ‹_›, hr1, ⟨‹_›, ‹_›, ‹_›, ‹_›⟩, ‹_›, Nat.le_refl _, hR2⟩ (by simp only [*, ↓ZD, ZW, RO, simprocAttr]) (by simp only [*, ↓ZD, ZW, RO, simprocAttr]) ?_
 clear hR hR1 hR2 hA hg hA1 hr1 hx1
 rintro ⟨p, s, cs9, G9, x1, m⟩ ⟨hA, hg, hc9, hr9, ⟨_, _, _, _⟩, hw9, hm, hR⟩
 dsimp only at hA hg hc9 hr9 hw9 hm hR ⊢
 have hlen := hW.len
 by_cases he0 : s.e = 0
 ·obtain rfl := hA.ok he0
  have hd : (p.e == 0) = true := by simpa using he0
  obtain ⟨m, rfl⟩ : ∃ m', m = m' + 1 := by
   cases m with
   | zero => exact absurd he0 (G_zero hR).1
   | succ m => exact ⟨m, rfl⟩
  rw [G_succ, if_pos he0] at hR
  simp only [stepG] at hR
  unfold memsG at hR
  replace he0 : id (p.e = 0) := he0
  simp only [*, ↓ZD, ZW, RO, simprocAttr]
  refine CallE.pure (rIs_pure _ hW p [91]) ?_
  rcases tf (isS ws p [91]) with hi | hi
  ·rw [hi, if_pos rfl] at hR
   have hrg := isS_range hi
   have hw1 : IntKind.i64.wrap (p.p + 1) = p.p + 1 := by rw [wrap_i64]; omega
   simp only [*, ↓ZD, ZW, RO, simprocAttr]
   refine CallE.pure (rtake_pure _ hW (adv p) 3 (by decide)) ?_
   simp only [*, ↓ZD, ZW, RO, simprocAttr]
   refine NewB.n ?_
   rintro b5 ⟨_, _, _, _, _, _, _, _, _⟩ _
   simp only [*, ↓ZD, ZW, RO, simprocAttr]
   refine CallE.pure (rmust_pure _ hW (takeS ws (adv p) 3).2 [93]) ?_
   simp only [*, ↓ZD, ZW, RO, simprocAttr]
   refine invK.on ⟨(mustS ws (takeS ws (adv p) 3).2 [93]), (mustS ws (takeS ws (adv p) 3).2 [93]), _, (b5, .cells cs9.toArray 39 (0, 0)) :: G9, oneX' 18 (takeS ws (adv p) 3).1 x1, m⟩ ⟨Agr.rfl', hg.adv.take.must, ⟨rfl, rfl, rfl, rfl⟩, fun he => rep_one ‹_› ‹_› (i64_lit rfl) (hr9 he0), by simp only [*, ↓ZD, ZW, RO, simprocAttr], hw9.cb ‹_›, (by show m ≤ N; omega), hR⟩ (by show m < m + 1; omega) (by simp only [*, ↓ZD, ZW, RO, simprocAttr]) (by simp only [xcells, lv0]; simp only [*, ↓ZD, ZW, RO, simprocAttr])
  rw [hi, if_neg (by decide)] at hR
  simp only [*, ↓ZD, ZW, RO, simprocAttr]
  refine CallE.pure (rIs_pure _ hW p [46]) ?_
  rcases tf (isS ws p [46]) with hj | hj
  ·rw [hj, if_pos rfl] at hR
   simp only at hR
   have hrg := isS_range hj
   have hw1 : IntKind.i64.wrap (p.p + 1) = p.p + 1 := by rw [wrap_i64]; omega
   simp only [*, ↓ZD, ZW, RO, simprocAttr]
   refine CallE.pure (rtake_pure _ hW (adv p) 1 (by decide)) ?_
   simp only [*, ↓ZD, ZW, RO, simprocAttr]
   refine CallE.pure (rIs_pure _ hW (takeS ws (adv p) 1).2 [40]) ?_
   have hgt := hg.adv.take (ws := ws) (k := 1)
   generalize hT : takeS ws (adv p) 1 = t at *
   clear hw1 hrg
   rcases tf (isS ws t.2 [40]) with hk | hk
   ·rw [hk, if_neg (by decide)] at hR
    rcases tf (t.1 == [99, 111, 110, 116, 97, 105, 110, 115]) with hM | hM0
    ·have hx : t.1 = [99, 111, 110, 116, 97, 105, 110, 115] := beq_iff_eq.1 hM
     clear hM hT
     have hm1 : methI t.1 = 21 := by rw [hx]; rfl
     rw [if_neg (by rw [hm1]; decide)] at hR
     rw [hm1] at hR
     have hrg2 := isS_range hk
     have hw1 : IntKind.i64.wrap (t.2.p + 1) = t.2.p + 1 := by rw [wrap_i64]; omega
     obtain ⟨⟨y, t2⟩, hR3, hR4⟩ := bind_some hR
     simp only at hR4
     clear hR hm1
     simp only [*, BQ, ↓ZD, ZW, RO, simprocAttr]
     refine NewB.n ?_
     rintro b5 ⟨_, _, _, _, _, _, _, _, _⟩ _
     simp only [*, ↓ZD, ZW, RO, simprocAttr]
     refine CallE.rq (p := adv t.2) (s := adv t.2) ((h2 m (by omega)).mono hFF) Agr.rfl' hgt.adv hR3 (by simp only [*, ↓ZD, ZW, RO, simprocAttr]) ?_
     rintro p10 cs10 G10 hA10 hr10 ⟨_, ⟨_, _, _, _, _, _⟩, hx10, _⟩
     simp only [*, ↓ZD, ZW, RO, simprocAttr]
     refine CallE.pair (i64_lit rfl) (fun he => ((hr9 he0).mono hx10)) (fun he => (hr10 he)) ‹_› ‹_› (by simp only [*, ↓ZD, ZW, RO, simprocAttr]) ?_
     rintro cs11 G11 hr11 ⟨_, ⟨_, _, _, _, _, _⟩, hx11, _⟩
     simp only [*, ↓ZD, ZW, RO, simprocAttr]
     refine CallE.pure (rmust_pure _ hW p10 [41]) ?_
     simp only [*, ↓ZD, ZW, RO, simprocAttr]
     refine invK.on ⟨(mustS ws p10 [41]), (mustS ws t2 [41]), cs11, G11, twoX 21 x1 y, m⟩ ⟨hA10.must, (hgt.adv.go hR3).must, ‹_›, fun he => hr11 (must_e he), ⟨‹_›, ‹_›, ‹_›, ‹_›⟩, ‹_›, (by show m ≤ N; omega), hR4⟩ (by show m < m + 1; omega) (by simp only [*, ↓ZD, ZW, RO, simprocAttr]) (by simp only [*, ↓ZD, ZW, RO, simprocAttr])
    rcases tf (t.1 == [99, 111, 110, 116, 97, 105, 110, 115, 65, 108, 108]) with hM | hM1
    ·have hx : t.1 = [99, 111, 110, 116, 97, 105, 110, 115, 65, 108, 108] := beq_iff_eq.1 hM
     clear hM hT
     have hm1 : methI t.1 = 22 := by rw [hx]; rfl
     rw [if_neg (by rw [hm1]; decide)] at hR
     rw [hm1] at hR
     have hrg2 := isS_range hk
     have hw1 : IntKind.i64.wrap (t.2.p + 1) = t.2.p + 1 := by rw [wrap_i64]; omega
     obtain ⟨⟨y, t2⟩, hR3, hR4⟩ := bind_some hR
     simp only at hR4
     clear hR hm1
     simp only [*, BQ, ↓ZD, ZW, RO, simprocAttr]
     refine NewB.n ?_
     rintro b5 ⟨_, _, _, _, _, _, _, _, _⟩ _
     simp only [*, ↓ZD, ZW, RO, simprocAttr]
     refine CallE.rq (p := adv t.2) (s := adv t.2) ((h2 m (by omega)).mono hFF) Agr.rfl' hgt.adv hR3 (by simp only [*, ↓ZD, ZW, RO, simprocAttr]) ?_
     rintro p10 cs10 G10 hA10 hr10 ⟨_, ⟨_, _, _, _, _, _⟩, hx10, _⟩
     simp only [*, ↓ZD, ZW, RO, simprocAttr]
     refine CallE.pair (i64_lit rfl) (fun he => ((hr9 he0).mono hx10)) (fun he => (hr10 he)) ‹_› ‹_› (by simp only [*, ↓ZD, ZW, RO, simprocAttr]) ?_
     rintro cs11 G11 hr11 ⟨_, ⟨_, _, _, _, _, _⟩, hx11, _⟩
     simp only [*, ↓ZD, ZW, RO, simprocAttr]
     refine CallE.pure (rmust_pure _ hW p10 [41]) ?_
     simp only [*, ↓ZD, ZW, RO, simprocAttr]
     refine invK.on ⟨(mustS ws p10 [41]), (mustS ws t2 [41]), cs11, G11, twoX 22 x1 y, m⟩ ⟨hA10.must, (hgt.adv.go hR3).must, ‹_›, fun he => hr11 (must_e he), ⟨‹_›, ‹_›, ‹_›, ‹_›⟩, ‹_›, (by show m ≤ N; omega), hR4⟩ (by show m < m + 1; omega) (by simp only [*, ↓ZD, ZW, RO, simprocAttr]) (by simp only [*, ↓ZD, ZW, RO, simprocAttr])
    rcases tf (t.1 == [99, 111, 110, 116, 97, 105, 110, 115, 65, 110, 121]) with hM | hM2
    ·have hx : t.1 = [99, 111, 110, 116, 97, 105, 110, 115, 65, 110, 121] := beq_iff_eq.1 hM
     clear hM hT
     have hm1 : methI t.1 = 23 := by rw [hx]; rfl
     rw [if_neg (by rw [hm1]; decide)] at hR
     rw [hm1] at hR
     have hrg2 := isS_range hk
     have hw1 : IntKind.i64.wrap (t.2.p + 1) = t.2.p + 1 := by rw [wrap_i64]; omega
     obtain ⟨⟨y, t2⟩, hR3, hR4⟩ := bind_some hR
     simp only at hR4
     clear hR hm1
     simp only [*, BQ, ↓ZD, ZW, RO, simprocAttr]
     refine NewB.n ?_
     rintro b5 ⟨_, _, _, _, _, _, _, _, _⟩ _
     simp only [*, ↓ZD, ZW, RO, simprocAttr]
     refine CallE.rq (p := adv t.2) (s := adv t.2) ((h2 m (by omega)).mono hFF) Agr.rfl' hgt.adv hR3 (by simp only [*, ↓ZD, ZW, RO, simprocAttr]) ?_
     rintro p10 cs10 G10 hA10 hr10 ⟨_, ⟨_, _, _, _, _, _⟩, hx10, _⟩
     simp only [*, ↓ZD, ZW, RO, simprocAttr]
     refine CallE.pair (i64_lit rfl) (fun he => ((hr9 he0).mono hx10)) (fun he => (hr10 he)) ‹_› ‹_› (by simp only [*, ↓ZD, ZW, RO, simprocAttr]) ?_
     rintro cs11 G11 hr11 ⟨_, ⟨_, _, _, _, _, _⟩, hx11, _⟩
     simp only [*, ↓ZD, ZW, RO, simprocAttr]
     refine CallE.pure (rmust_pure _ hW p10 [41]) ?_
     simp only [*, ↓ZD, ZW, RO, simprocAttr]
     refine invK.on ⟨(mustS ws p10 [41]), (mustS ws t2 [41]), cs11, G11, twoX 23 x1 y, m⟩ ⟨hA10.must, (hgt.adv.go hR3).must, ‹_›, fun he => hr11 (must_e he), ⟨‹_›, ‹_›, ‹_›, ‹_›⟩, ‹_›, (by show m ≤ N; omega), hR4⟩ (by show m < m + 1; omega) (by simp only [*, ↓ZD, ZW, RO, simprocAttr]) (by simp only [*, ↓ZD, ZW, RO, simprocAttr])
    have hm0 : methI t.1 = 0 := by
     unfold methI
     rw [if_neg (fun h => by rw [h] at hM0; cases hM0), if_neg (fun h => by rw [h] at hM1; cases hM1), if_neg (fun h => by rw [h] at hM2; cases hM2)]
    rw [if_pos hm0] at hR
    simp only [Option.some.injEq, Prod.mk.injEq] at hR
    obtain ⟨rfl, rfl⟩ := hR
    simp only [*, ↓ZD, ZW, RO, simprocAttr]
    refine TreeL.open ?_
    simp only [*, ↓ZD, ZW, RO, simprocAttr]
    repeat' (refine And.intro ?_ ?_)
    all_goals (
     refine CallQ.of _ (rfail_pure _ (hW.mono le_up) t.2 10) ?_
     simp only [*, ↓ZD, ZW, RO, simprocAttr]
     repeat' (first | exact RFin.g Agr.rfl' ‹_› (fun he => absurd he (failS_e (by decide))) ‹_› | apply And.intro))
   rw [hk, if_pos rfl] at hR
   simp only [*, ↓ZD, ZW, RO, simprocAttr]
   refine NewB.n ?_
   rintro b5 ⟨_, _, _, _, _, _, _, _, _⟩ _
   simp only [*, ↓ZD, ZW, RO, simprocAttr]
   refine invK.on ⟨t.2, t.2, _, (b5, .cells cs9.toArray 39 (0, 0)) :: G9, oneX' 18 t.1 x1, m⟩ ⟨Agr.rfl', hgt, ⟨rfl, rfl, rfl, rfl⟩, fun he => rep_one ‹_› ‹_› (i64_lit rfl) (hr9 he0), by simp only [*, ↓ZD, ZW, RO, simprocAttr], hw9.cb ‹_›, (by show m ≤ N; omega), hR⟩ (by show m < m + 1; omega) (by simp only [*, ↓ZD, ZW, RO, simprocAttr]) (by simp only [xcells, lv0]; simp only [*, ↓ZD, ZW, RO, simprocAttr])
  rw [hj, if_neg (by decide)] at hR
  simp only [Option.some.injEq, Prod.mk.injEq] at hR
  obtain ⟨rfl, rfl⟩ := hR
  simp only [*, ↓ZD, ZW, RO, simprocAttr]
  refine TreeL.open ?_
  simp only [*, ↓ZD, ZW, RO, simprocAttr]
  repeat' (first | exact RFin.g hA ‹_› hr9 ‹_› | apply And.intro)
 ·have hd : (p.e == 0) = false := by rw [hA.e]; simpa using he0
  obtain ⟨rfl, rfl⟩ := G_err he0 _ _ hR
  simp only [*, ↓ZD, ZW, RO, simprocAttr]
  refine TreeL.open ?_
  simp only [*, ↓ZD, ZW, RO, simprocAttr]
  repeat' (first | exact RFin.g hA ‹_› (fun h => absurd h he0) ‹_› | apply And.intro)
end Go.Proofs.YtnenbihkcjgddaaGreatDoor
namespace Go.Proofs.YtnenbihkcjgddaaGreatDoor
open Go Go.Eng
set_option maxHeartbeats 1000000
set_option linter.unusedSimpArgs false
set_option linter.unusedVariables false
set_option maxRecDepth 20000
structure RItI (F : Base) (ws : Ws) (b1 b2 b3 b4 : Nat) (op : Int) (N : Nat) (xF : Ex') (sF : St) (y : ItS × Nat) : Prop where
 h : ItOk F b1 b4 y.1
 k2 : Nb b2 y.1.Hk ∧ Nb b3 y.1.Hk
 n2 : Nb b2 y.1.Hn ∧ Nb b3 y.1.Hn
 g2 : Nb b2 y.1.G ∧ Nb b3 y.1.G
 n : op ≠ 20 → y.1.ns = [] ∧ y.1.Hn = [] ∧ y.1.vn = .slice none 0 0
 c : y.1.s.e = 0 → (y.1.css.length : Int) ≤ y.1.s.p ∧ y.1.s.p ≤ ws.length
 m : y.2 ≤ N
 R : G ws y.2 (.its op y.1.ns y.1.ks) y.1.s = some (xF, sF)
theorem Off.nb {b bo : Nat} {H : Hp} (h : Off b bo H) : Nb b H ∧ Nb bo H := ⟨.of fun e he => (h e he).1, .of fun e he => (h e he).2⟩
theorem djs {A B : Hp} (h : ∀ e ∈ A, ∀ e' ∈ B, e.1 ≠ e'.1) : Dj A B ∧ Dj B A := ⟨Dj.iff.2 fun e he e' he' => (h e he e' he').symm, Dj.iff.2 fun e he e' he' => h e' he' e he⟩
theorem must_in {ws : Ws} {s : St} {t : Str} (h : (mustS ws s t).e = 0) : 0 ≤ s.p ∧ s.p < ws.length ∧ (mustS ws s t).p = s.p + 1 := by
 unfold mustS at *
 cases hi : isS ws s t with
 | true => have := isS_range hi; exact ⟨this.1, this.2, rfl⟩
 | false => rw [hi, if_neg (by decide)] at h; exact absurd h (failS_e (by decide))
theorem head_fwd {ws : Ws} {op : Int} {ns : List Str} {s : St} : Fwd 0 s (headS ws op ns s).2 := Fwd.head
set_option maxHeartbeats 8000000 in
theorem ritems19_does (F : Base) {ws : Ws} (hws : WsOk ws) {l : Value} (hW : HasW F ws l) (N : Nat) (h1 : ∀ n ≤ N, RPrs F l 41 [] (G ws n .expr)) (F' : Base) (hFF : ∀ b o, F b = some o → F' b = some o) (p s' : St) (x : Ex') (hg : Good p) (hp : 0 ≤ p.p ∧ p.p < ws.length) (hR : itemsG ws (G ws N) 19 (adv p) = some (x, s')) :
  Does Tryz.prog F' 132 [PV l p, .string (bs [93]), .int .i64 19].toArray [] (RPost F' l x s') := by
 have hW := hW.mono hFF
 have hol := hW.one'
 have hlen := hW.len
 have hws1 := hws.1
 have hw1 : IntKind.i64.wrap (p.p + 1) = p.p + 1 := by rw [wrap_i64]; omega
 refine Does.rfin (does_of_svc (args := [PV l p, .string (bs [93]), .int .i64 19]) mixed Tryz.func132 low132 (Nat.le_of_ble_eq_true rfl) fun w0 hw0 => ?_)
 simp only [*, fu132, ↓ZD, ZW, RO, simprocAttr]
 refine NewB.n ?_
 rintro b1 _ _
 simp only [*, ↓ZD, ZW, RO, simprocAttr]
 refine NewB.n ?_
 rintro b2 ⟨_, _, _⟩ _
 simp only [*, ↓ZD, ZW, RO, simprocAttr]
 refine NewB.n ?_
 rintro b3 ⟨_, _, _, _, _⟩ _
 simp only [*, ↓ZD, ZW, RO, simprocAttr]
 refine NewB.n ?_
 rintro b4 ⟨_, _, _, _, _, _, _⟩ _
 simp only [*, ↓ZD, ZW, RO, simprocAttr]
 unfold itemsG at hR
 refine CallE.pure (rIs_pure _ hW (adv p) [93]) ?_
 rw [show endOf 19 = [93] from rfl] at hR
 rcases tf (isS ws (adv p) [93]) with hi | hi
 ·rw [hi, if_pos rfl] at hR
  simp only [Option.some.injEq, Prod.mk.injEq] at hR
  obtain ⟨rfl, rfl⟩ := hR
  have hrg := isS_range hi
  have hw3 : IntKind.i64.wrap (p.p + 1 + 1) = p.p + 1 + 1 := by have : (adv p).p = p.p + 1 := rfl; rw [wrap_i64]; omega
  simp only [*, ↓ZD, ZW, RO, simprocAttr]
  refine TreeL.open ?_
  simp only [*, ↓ZD, ZW, RO, simprocAttr]
  repeat' (first | exact RFin.m (p' := adv (adv p)) [] Agr.rfl' ⟨rfl, rfl, rfl, rfl⟩ (fun _ => repP_leaf (op := 19) (v := lv0) (nm := []) (i64_lit rfl) (i64_lit rfl) (i64_lit rfl)) Wk.nil all_nil | apply And.intro)
 rw [hi, if_neg (by decide)] at hR
 simp only [*, ↓ZD, ZW, RO, simprocAttr]
 refine LoopL.inv (α := ItS × Nat) (RItI F' ws b1 b2 b3 b4 19 N x s')
  (fun y => [(1, some (.string (bs [93]))), (2, some (.int .i64 19)), (3, some (.pointer (some ⟨b1, 0, none⟩))), (6, some (.pointer (some ⟨b2, 0, none⟩))), (7, some (.pointer (some ⟨b3, 0, none⟩))), (8, some (.pointer (some ⟨b4, 0, none⟩)))])
  (fun y => (b4, outO 19 y.1.vk y.1.vn) :: (b3, .cells zx.toArray 39 (0, 0)) :: (b2, .cells zp.toArray 70 (0, 0)) :: (b1, .cells #[l, .int .i64 y.1.p.p, .int .i64 y.1.p.deep, .int .i64 y.1.p.e, .int .i64 y.1.p.bad] 70 (0, 0)) :: (y.1.Hk ++ (y.1.Hn ++ y.1.G))) (fun y => y.2) (⟨adv p, adv p, [], [], [], .slice none 0 0, .slice none 0 0, [], [], []⟩, N)
  ⟨it_nil hg.adv, ⟨trivial, trivial⟩, ⟨trivial, trivial⟩, ⟨trivial, trivial⟩, fun _ => ⟨rfl, rfl, rfl⟩, fun _ => ⟨by show (0 : Int) ≤ p.p + 1; omega, by show p.p + 1 ≤ ws.length; omega⟩, Nat.le_refl _, hR⟩ (by simp only [*, ↓ZD, ZW, RO, simprocAttr]) (by simp only [*, adv, ↓ZD, ZW, RO, simprocAttr]) ?_
 clear hR hi hw1 hp hg
 rintro ⟨⟨p, s, ks, ns, css, vk, vn, Hk, Hn, G0⟩, m⟩ ⟨⟨hA, hg, hk, h12, hn, hnl, hr, ok, on, og, kn, kg, ng, hw, hle⟩, ok2, on2, og2, hn0, hc, hm, hR⟩
 dsimp only at hA hg hk h12 hn hnl hr ok on og kn kg ng hw hle ok2 on2 og2 hn0 hc hm hR ⊢
 obtain ⟨base, capk, hvk, hck⟩ := hk.len_le
 subst hvk
 have hvn : oneCell vn = true := by obtain ⟨_, _, h, -⟩ := hn.len_le; rw [h]; rfl
 have a1 := ok.nb
 have a2 := on.nb
 have a3 := og.nb
 have a4 := djs kn
 have a5 := djs kg
 have a6 := djs ng
 have nk := hk.noF
 have hwk := OwnS.sub hk
 clear ok on og kn kg ng
 by_cases he0 : s.e = 0
 ·obtain rfl := hA.ok he0
  have hd : (p.e == 0) = true := by simpa using he0
  obtain ⟨m, rfl⟩ : ∃ m', m = m' + 1 := by
   cases m with
   | zero => exact absurd he0 (G_zero hR).1
   | succ m => exact ⟨m, rfl⟩
  rw [G_succ, if_pos he0] at hR
  simp only [stepG, itsG] at hR
  obtain ⟨⟨y1, s1⟩, hR3, hR4⟩ := bind_some hR
  simp only at hR4
  have hfw := (head_fwd (ws := ws) (op := 19) (ns := ns) (s := p)).trans (G_goes ws m _ _ _ hR3)
  have h20 : s1.e = 0 → p.p ≤ s1.p := fun he => by have := (hfw he).2.1; simp only at this; omega
  obtain ⟨hc0, hc9⟩ := hc he0
  have hgq : Good (headS ws 19 ns p).2 := hg.fwd (head_fwd (ws := ws) (op := 19) (ns := ns) (s := p))
  clear hR hc
  replace he0 : id (p.e = 0) := he0
  obtain ⟨rfl, rfl, rfl⟩ := hn0 (by decide)
  rw [show headS ws 19 [] p = ([], p) from if_neg (by decide)] at hR3 hR4 hgq
  simp only at hR3 hR4 hgq
  clear hn0 a2 a4 a6 hfw
  simp only [List.nil_append]
  simp only [*, ↓ZD, ZW, RO, simprocAttr]
  refine NewB.n ?_
  intro b5 hz5 hF5
  simp only [Nb_cons, Nb_app, Nb_nil] at hz5
  simp only [*, List.append_assoc, List.append_nil, ↓ZD, ZW, RO, simprocAttr]
  refine CallE.rq (p := p) (s := p) ((h1 m (by omega)).mono hFF) Agr.rfl' hgq hR3 (by simp only [*, List.append_assoc, List.append_nil, ↓ZD, ZW, RO, simprocAttr]) ?_
  rintro p1 cs1 G1 hA1 hr1 ⟨c12, hd1, hx1, hw1⟩
  simp only [Dj_cons, Dj_app, Dj_nil] at hd1
  have cok := c12.2.1
  simp only [*, List.append_assoc, List.append_nil, ↓ZD, ZW, RO, simprocAttr]
  refine NewB.n ?_
  intro b6 hz6 hF6
  simp only [Nb_cons, Nb_app, Nb_nil] at hz6
  simp only [*, List.append_assoc, List.append_nil, ↓ZD, ZW, RO, simprocAttr]
  have d1 : Dj G1 Hk := Dj.symm (by simp only [*, ↓ZD, ZW, RO, simprocAttr])
  refine EfL.more (m := 1) (nw := cs1) hk (by simp only [*, ↓ZD, ZW, RO, simprocAttr]) (by simp only [*, ↓ZD, ZW, RO, simprocAttr]) (by rw [c12.1]) (List.all_eq_true.1 (Bool.and_eq_true_iff.1 cok).1) (by intro h; rw [h] at c12; cases c12.1) (by omega) ?_
  intro b7 cap sp hs hcap hcm hF7 hz7
  simp only [Nb_cons, Nb_app, Nb_nil] at hz7
  have hy := ItOk.add (F := F') (b := b1) (bo := b4) (ns := []) hA1 (hgq.go hR3) h12 c12.1 OwnS.nil (fun c h => by cases h) (fun he => ⟨⟨(hr he0).1, fun i c t hc ht => ((hr he0).2 i c t hc ht).mono hx1⟩, hr1 he⟩) hF7 hs hcap hcm (by simp only [*, ↓ZD, ZW, RO, simprocAttr]) (by simp only [*, ↓ZD, ZW, RO, simprocAttr]) (fun e he => by cases he) (Nb.all (b := b1) (H := G1) (by simp only [*, ↓ZD, ZW, RO, simprocAttr])) (Nb.all (b := b4) (H := G1) (by simp only [*, ↓ZD, ZW, RO, simprocAttr])) (Nb.all (b := b7) (H := []) (by simp only [*, ↓ZD, ZW, RO, simprocAttr])) (Nb.all (b := b7) (H := G1) (by simp only [*, ↓ZD, ZW, RO, simprocAttr])) (fun e he e' he' => (Dj.iff.1 (show Dj [] G1 by simp only [*, ↓ZD, ZW, RO, simprocAttr]) e he e' he').symm) hw1 (Nat.zero_le _)
  simp only [show endOf 19 = [93] from rfl] at hR4
  simp only [*, List.append_assoc, List.append_nil, ↓ZD, ZW, RO, simprocAttr]
  refine CallE.pure (rIs_pure _ hW p1 [93]) ?_
  rw [show isS ws p1 [93] = isS ws s1 [93] from hA1.is]
  rcases tf (isS ws s1 [93]) with hi | hi
  ·rw [hi, if_pos rfl] at hR4
   simp only [Option.some.injEq, Prod.mk.injEq] at hR4
   obtain ⟨rfl, rfl⟩ := hR4
   have he1 := isS_ok hi
   obtain rfl := hA1.ok he1
   have hrg := isS_range hi
   have hw2 : IntKind.i64.wrap (p1.p + 1) = p1.p + 1 := by rw [wrap_i64]; omega
   replace he1 : id (p1.e = 0) := he1
   simp only [*, List.append_assoc, List.append_nil, ↓ZD, ZW, RO, simprocAttr]
   refine TreeL.open ?_
   simp only [*, ↓ZD, ZW, RO, simprocAttr]
   repeat' (first | exact RFin.m (p' := adv p1) _ Agr.rfl' ⟨rfl, rfl, rfl, rfl⟩ (fun he => it_rep hy (i64_lit rfl) he1 (by simp only [List.length_append, List.length_cons, List.length_nil]; omega)) (it_wkx hy) (by simp +contextual) | apply And.intro)
  rw [hi, if_neg (by decide)] at hR4
  simp only [*, List.append_assoc, List.append_nil, ↓ZD, ZW, RO, simprocAttr]
  refine CallE.pure (rmust_pure _ hW p1 [44]) ?_
  simp only [*, List.append_assoc, List.append_nil, ↓ZD, ZW, RO, simprocAttr]
  refine invK.on ⟨{ (_ : ItS) with p := mustS ws p1 [44], s := mustS ws s1 [44] }, m⟩ ⟨hy.st hA1.must (hgq.go hR3).must fun he => must_e he, ⟨by simp only [*, ↓ZD, ZW, RO, simprocAttr], by simp only [*, ↓ZD, ZW, RO, simprocAttr]⟩, ⟨trivial, trivial⟩, ⟨by simp only [*, ↓ZD, ZW, RO, simprocAttr], by simp only [*, ↓ZD, ZW, RO, simprocAttr]⟩, (fun _ => ⟨rfl, rfl, rfl⟩), fun he => ?_, by show m ≤ N; omega, hR4⟩ (by show m < m + 1; omega) (by simp only [*, ↓ZD, ZW, RO, simprocAttr]) (by simp only [*, List.append_assoc, List.append_nil, ↓ZD, ZW, RO, simprocAttr])
  have hm1 := must_in he
  have hs1 := must_e he
  have hf := h20 hs1
  have h0 := hc0
  show ((css ++ [cs1]).length : Int) ≤ (mustS ws s1 [44]).p ∧ (mustS ws s1 [44]).p ≤ ws.length
  rw [List.length_append, List.length_cons, List.length_nil, hm1.2.2]
  omega
 ·have hd : (p.e == 0) = false := by rw [hA.e]; simpa using he0
  obtain ⟨rfl, rfl⟩ := G_err he0 _ _ hR
  simp only [*, ↓ZD, ZW, RO, simprocAttr]
  refine TreeL.open ?_
  simp only [*, ↓ZD, ZW, RO, simprocAttr]
  repeat' (first | exact ⟨p, _, [], hA, rfl, ⟨rfl, by simp only [*, ↓ZD, ZW, RO, simprocAttr], rfl, rfl⟩, fun he => absurd he he0, Wk.nil, all_nil⟩ | apply And.intro)
set_option maxHeartbeats 8000000 in
theorem ritems20_does (F : Base) {ws : Ws} (hws : WsOk ws) {l : Value} (hW : HasW F ws l) (N : Nat) (h1 : ∀ n ≤ N, RPrs F l 41 [] (G ws n .expr)) (F' : Base) (hFF : ∀ b o, F b = some o → F' b = some o) (p s' : St) (x : Ex') (hg : Good p) (hp : 0 ≤ p.p ∧ p.p < ws.length) (hR : itemsG ws (G ws N) 20 (adv p) = some (x, s')) :
  Does Tryz.prog F' 132 [PV l p, .string (bs [125]), .int .i64 20].toArray [] (RPost F' l x s') := by
 have hW := hW.mono hFF
 have hol := hW.one'
 have hlen := hW.len
 have hws1 := hws.1
 have hw1 : IntKind.i64.wrap (p.p + 1) = p.p + 1 := by rw [wrap_i64]; omega
 refine Does.rfin (does_of_svc (args := [PV l p, .string (bs [125]), .int .i64 20]) mixed Tryz.func132 low132 (Nat.le_of_ble_eq_true rfl) fun w0 hw0 => ?_)
 simp only [*, fu132, ↓ZD, ZW, RO, simprocAttr]
 refine NewB.n ?_
 rintro b1 _ _
 simp only [*, ↓ZD, ZW, RO, simprocAttr]
 refine NewB.n ?_
 rintro b2 ⟨_, _, _⟩ _
 simp only [*, ↓ZD, ZW, RO, simprocAttr]
 refine NewB.n ?_
 rintro b3 ⟨_, _, _, _, _⟩ _
 simp only [*, ↓ZD, ZW, RO, simprocAttr]
 refine NewB.n ?_
 rintro b4 ⟨_, _, _, _, _, _, _⟩ _
 simp only [*, ↓ZD, ZW, RO, simprocAttr]
 unfold itemsG at hR
 refine CallE.pure (rIs_pure _ hW (adv p) [125]) ?_
 rw [show endOf 20 = [125] from rfl] at hR
 rcases tf (isS ws (adv p) [125]) with hi | hi
 ·rw [hi, if_pos rfl] at hR
  simp only [Option.some.injEq, Prod.mk.injEq] at hR
  obtain ⟨rfl, rfl⟩ := hR
  have hrg := isS_range hi
  have hw3 : IntKind.i64.wrap (p.p + 1 + 1) = p.p + 1 + 1 := by have : (adv p).p = p.p + 1 := rfl; rw [wrap_i64]; omega
  simp only [*, ↓ZD, ZW, RO, simprocAttr]
  refine TreeL.open ?_
  simp only [*, ↓ZD, ZW, RO, simprocAttr]
  repeat' (first | exact RFin.m (p' := adv (adv p)) [] Agr.rfl' ⟨rfl, rfl, rfl, rfl⟩ (fun _ => repP_leaf (op := 20) (v := lv0) (nm := []) (i64_lit rfl) (i64_lit rfl) (i64_lit rfl)) Wk.nil all_nil | apply And.intro)
 rw [hi, if_neg (by decide)] at hR
 simp only [*, ↓ZD, ZW, RO, simprocAttr]
 refine LoopL.inv (α := ItS × Nat) (RItI F' ws b1 b2 b3 b4 20 N x s')
  (fun y => [(1, some (.string (bs [125]))), (2, some (.int .i64 20)), (3, some (.pointer (some ⟨b1, 0, none⟩))), (6, some (.pointer (some ⟨b2, 0, none⟩))), (7, some (.pointer (some ⟨b3, 0, none⟩))), (8, some (.pointer (some ⟨b4, 0, none⟩)))])
  (fun y => (b4, outO 20 y.1.vk y.1.vn) :: (b3, .cells zx.toArray 39 (0, 0)) :: (b2, .cells zp.toArray 70 (0, 0)) :: (b1, .cells #[l, .int .i64 y.1.p.p, .int .i64 y.1.p.deep, .int .i64 y.1.p.e, .int .i64 y.1.p.bad] 70 (0, 0)) :: (y.1.Hk ++ (y.1.Hn ++ y.1.G))) (fun y => y.2) (⟨adv p, adv p, [], [], [], .slice none 0 0, .slice none 0 0, [], [], []⟩, N)
  ⟨it_nil hg.adv, ⟨trivial, trivial⟩, ⟨trivial, trivial⟩, ⟨trivial, trivial⟩, fun _ => ⟨rfl, rfl, rfl⟩, fun _ => ⟨by show (0 : Int) ≤ p.p + 1; omega, by show p.p + 1 ≤ ws.length; omega⟩, Nat.le_refl _, hR⟩ (by simp only [*, ↓ZD, ZW, RO, simprocAttr]) (by simp only [*, adv, ↓ZD, ZW, RO, simprocAttr]) ?_
 clear hR hi hw1 hp hg
 rintro ⟨⟨p, s, ks, ns, css, vk, vn, Hk, Hn, G0⟩, m⟩ ⟨⟨hA, hg, hk, h12, hn, hnl, hr, ok, on, og, kn, kg, ng, hw, hle⟩, ok2, on2, og2, hn0, hc, hm, hR⟩
 dsimp only at hA hg hk h12 hn hnl hr ok on og kn kg ng hw hle ok2 on2 og2 hn0 hc hm hR ⊢
 obtain ⟨base, capk, hvk, hck⟩ := hk.len_le
 subst hvk
 have hvn : oneCell vn = true := by obtain ⟨_, _, h, -⟩ := hn.len_le; rw [h]; rfl
 have a1 := ok.nb
 have a2 := on.nb
 have a3 := og.nb
 have a4 := djs kn
 have a5 := djs kg
 have a6 := djs ng
 have nk := hk.noF
 have hwk := OwnS.sub hk
 clear ok on og kn kg ng
 by_cases he0 : s.e = 0
 ·obtain rfl := hA.ok he0
  have hd : (p.e == 0) = true := by simpa using he0
  obtain ⟨m, rfl⟩ : ∃ m', m = m' + 1 := by
   cases m with
   | zero => exact absurd he0 (G_zero hR).1
   | succ m => exact ⟨m, rfl⟩
  rw [G_succ, if_pos he0] at hR
  simp only [stepG, itsG] at hR
  obtain ⟨⟨y1, s1⟩, hR3, hR4⟩ := bind_some hR
  simp only at hR4
  have hfw := (head_fwd (ws := ws) (op := 20) (ns := ns) (s := p)).trans (G_goes ws m _ _ _ hR3)
  have h20 : s1.e = 0 → p.p ≤ s1.p := fun he => by have := (hfw he).2.1; simp only at this; omega
  obtain ⟨hc0, hc9⟩ := hc he0
  have hgq : Good (headS ws 20 ns p).2 := hg.fwd (head_fwd (ws := ws) (op := 20) (ns := ns) (s := p))
  clear hR hc
  replace he0 : id (p.e = 0) := he0
  have nn := hn.noF
  clear hn0 hfw
  simp only [*, List.append_assoc, List.append_nil, ↓ZD, ZW, RO, simprocAttr]
  refine CallE.pure (rword_pure F' hW p) ?_
  by_cases hk3 : wk ws p = 3
  ·have hq3 : ((((wdAt ws p.p).1.1 : Nat) : Int) == 3) = true := beq_iff_eq.2 hk3
   rw [show headS ws 20 ns p = (ns ++ [(takeS ws p 3).1], mustS ws (takeS ws p 3).2 [58]) by unfold headS; rw [if_pos rfl, if_pos hk3]] at hR3 hR4 hgq
   simp only at hR3 hR4 hgq
   clear hk3
   simp only [*, wf0, wsz, List.append_assoc, List.append_nil, ↓ZD, ZW, RO, simprocAttr]
   refine CallE.pure (rtake_pure _ hW p 3 (by decide)) ?_
   have hnm : (takeS ws p 3).1.length ≤ 65536 := take_name hws
   generalize takeS ws p 3 = t at *
   clear hq3
   simp only [*, List.append_assoc, List.append_nil, ↓ZD, ZW, RO, simprocAttr]
   refine NewB.n ?_
   intro b5 hz5 hF5
   simp only [Nb_cons, Nb_app, Nb_nil] at hz5
   simp only [*, List.append_assoc, List.append_nil, ↓ZD, ZW, RO, simprocAttr]
   refine EfL.more (m := 1) (nw := [Value.string (bs t.1)]) hn (by simp only [*, ↓ZD, ZW, RO, simprocAttr]) (by simp only [*, ↓ZD, ZW, RO, simprocAttr]) rfl (fun v hv => by rw [List.mem_singleton.1 hv]; rfl) (by simp) (by omega) ?_
   intro b6 cap2 sp2 hs2 hcap2 hcm2 hF6 hz6
   simp only [Nb_cons, Nb_app, Nb_nil] at hz6
   clear a2 a4 a6 nn
   simp only [*, List.append_assoc, List.append_nil, ↓ZD, ZW, RO, simprocAttr]
   refine CallE.pure (rmust_pure _ hW t.2 [58]) ?_
   simp only [*, List.append_assoc, List.append_nil, ↓ZD, ZW, RO, simprocAttr]
   refine NewB.n ?_
   intro b7 hz7 hF7
   simp only [Nb_cons, Nb_app, Nb_nil] at hz7
   simp only [*, List.append_assoc, List.append_nil, ↓ZD, ZW, RO, simprocAttr]
   refine CallE.rq (p := (mustS ws t.2 [58])) (s := (mustS ws t.2 [58])) ((h1 m (by omega)).mono hFF) Agr.rfl' hgq hR3 (by simp only [*, List.append_assoc, List.append_nil, ↓ZD, ZW, RO, simprocAttr]) ?_
   rintro p1 cs1 G1 hA1 hr1 ⟨c12, hd1, hx1, hw1⟩
   simp only [Dj_cons, Dj_app, Dj_nil] at hd1
   have cok := c12.2.1
   simp only [*, List.append_assoc, List.append_nil, ↓ZD, ZW, RO, simprocAttr]
   refine NewB.n ?_
   intro b8 hz8 hF8
   simp only [Nb_cons, Nb_app, Nb_nil] at hz8
   simp only [*, List.append_assoc, List.append_nil, ↓ZD, ZW, RO, simprocAttr]
   have d1 : Dj G1 Hk := Dj.symm (by simp only [*, ↓ZD, ZW, RO, simprocAttr])
   refine EfL.more (m := 1) (nw := cs1) hk (by simp only [*, ↓ZD, ZW, RO, simprocAttr]) (by simp only [*, ↓ZD, ZW, RO, simprocAttr]) (by rw [c12.1]) (List.all_eq_true.1 (Bool.and_eq_true_iff.1 cok).1) (by intro h; rw [h] at c12; cases c12.1) (by omega) ?_
   intro b9 cap sp hs hcap hcm hF9 hz9
   simp only [Nb_cons, Nb_app, Nb_nil] at hz9
   have hy := ItOk.add (F := F') (b := b1) (bo := b4) (ns := ns ++ [t.1]) (vn := .slice (some ⟨b6, 0, none⟩) (ns.length + 1) cap2) hA1 (hgq.go hR3) h12 c12.1 (OwnS.mk sp2 hF6 (by simp) (by simp) (by simp) (by simpa using hs2) (by simpa using hcap2) hcm2) (fun c h => by rcases List.mem_append.1 h with h | h; exact hnl c h; rw [List.mem_singleton.1 h]; exact hnm) (fun he => ⟨⟨(hr he0).1, fun i c t hc ht => ((hr he0).2 i c t hc ht).mono hx1⟩, hr1 he⟩) hF9 hs hcap hcm (by simp only [*, ↓ZD, ZW, RO, simprocAttr]) (by simp only [*, ↓ZD, ZW, RO, simprocAttr]) (fun e he => by rw [List.mem_singleton.1 he]; constructor <;> simp [*]) (Nb.all (b := b1) (H := G1) (by simp only [*, ↓ZD, ZW, RO, simprocAttr])) (Nb.all (b := b4) (H := G1) (by simp only [*, ↓ZD, ZW, RO, simprocAttr])) (Nb.all (b := b9) (H := [(b6, .cells ((ns.map fun s => Value.string (bs s)) ++ [Value.string (bs t.1)] ++ sp2).toArray 9 (0, 0))]) (by simp only [*, ↓ZD, ZW, RO, simprocAttr])) (Nb.all (b := b9) (H := G1) (by simp only [*, ↓ZD, ZW, RO, simprocAttr])) (fun e he e' he' => (Dj.iff.1 (show Dj [(b6, .cells ((ns.map fun s => Value.string (bs s)) ++ [Value.string (bs t.1)] ++ sp2).toArray 9 (0, 0))] G1 by simp only [*, ↓ZD, ZW, RO, simprocAttr]) e he e' he').symm) hw1 (by rw [List.length_append]; show ns.length + 1 ≤ css.length + 1; omega)
   simp only [show endOf 20 = [125] from rfl] at hR4
   simp only [*, List.append_assoc, List.append_nil, ↓ZD, ZW, RO, simprocAttr]
   refine CallE.pure (rIs_pure _ hW p1 [125]) ?_
   rw [show isS ws p1 [125] = isS ws s1 [125] from hA1.is]
   rcases tf (isS ws s1 [125]) with hi | hi
   ·rw [hi, if_pos rfl] at hR4
    simp only [Option.some.injEq, Prod.mk.injEq] at hR4
    obtain ⟨rfl, rfl⟩ := hR4
    have he1 := isS_ok hi
    obtain rfl := hA1.ok he1
    have hrg := isS_range hi
    have hw2 : IntKind.i64.wrap (p1.p + 1) = p1.p + 1 := by rw [wrap_i64]; omega
    replace he1 : id (p1.e = 0) := he1
    simp only [*, List.append_assoc, List.append_nil, ↓ZD, ZW, RO, simprocAttr]
    refine TreeL.open ?_
    simp only [*, ↓ZD, ZW, RO, simprocAttr]
    repeat' (first | exact RFin.m (p' := adv p1) _ Agr.rfl' ⟨rfl, rfl, rfl, rfl⟩ (fun he => it_rep hy (i64_lit rfl) he1 (by simp only [List.length_append, List.length_cons, List.length_nil]; omega)) (it_wkx hy) (by simp +contextual) | apply And.intro)
   rw [hi, if_neg (by decide)] at hR4
   simp only [*, List.append_assoc, List.append_nil, ↓ZD, ZW, RO, simprocAttr]
   refine CallE.pure (rmust_pure _ hW p1 [44]) ?_
   simp only [*, List.append_assoc, List.append_nil, ↓ZD, ZW, RO, simprocAttr]
   refine invK.on ⟨{ (_ : ItS) with p := mustS ws p1 [44], s := mustS ws s1 [44] }, m⟩ ⟨hy.st hA1.must (hgq.go hR3).must fun he => must_e he, ⟨by simp only [*, ↓ZD, ZW, RO, simprocAttr], by simp only [*, ↓ZD, ZW, RO, simprocAttr]⟩, ⟨by simp only [*, ↓ZD, ZW, RO, simprocAttr], by simp only [*, ↓ZD, ZW, RO, simprocAttr]⟩, ⟨by simp only [*, ↓ZD, ZW, RO, simprocAttr], by simp only [*, ↓ZD, ZW, RO, simprocAttr]⟩, (fun h => absurd rfl h), fun he => ?_, by show m ≤ N; omega, hR4⟩ (by show m < m + 1; omega) (by simp only [*, ↓ZD, ZW, RO, simprocAttr]) (by simp only [*, List.append_assoc, List.append_nil, ↓ZD, ZW, RO, simprocAttr])
   have hm1 := must_in he
   have hs1 := must_e he
   have hf := h20 hs1
   have h0 := hc0
   show ((css ++ [cs1]).length : Int) ≤ (mustS ws s1 [44]).p ∧ (mustS ws s1 [44]).p ≤ ws.length
   rw [List.length_append, List.length_cons, List.length_nil, hm1.2.2]
   omega
  ·have hq3 : ((((wdAt ws p.p).1.1 : Nat) : Int) == 3) = false := beq_eq_false_iff_ne.2 hk3
   rw [show headS ws 20 ns p = (ns ++ [(takeS ws p 1).1], mustS ws (takeS ws p 1).2 [58]) by unfold headS; rw [if_pos rfl, if_neg hk3]] at hR3 hR4 hgq
   simp only at hR3 hR4 hgq
   clear hk3
   simp only [*, wf0, wsz, List.append_assoc, List.append_nil, ↓ZD, ZW, RO, simprocAttr]
   refine CallE.pure (rtake_pure _ hW p 1 (by decide)) ?_
   have hnm : (takeS ws p 1).1.length ≤ 65536 := take_name hws
   generalize takeS ws p 1 = t at *
   clear hq3
   simp only [*, List.append_assoc, List.append_nil, ↓ZD, ZW, RO, simprocAttr]
   refine NewB.n ?_
   intro b5 hz5 hF5
   simp only [Nb_cons, Nb_app, Nb_nil] at hz5
   simp only [*, List.append_assoc, List.append_nil, ↓ZD, ZW, RO, simprocAttr]
   refine EfL.more (m := 1) (nw := [Value.string (bs t.1)]) hn (by simp only [*, ↓ZD, ZW, RO, simprocAttr]) (by simp only [*, ↓ZD, ZW, RO, simprocAttr]) rfl (fun v hv => by rw [List.mem_singleton.1 hv]; rfl) (by simp) (by omega) ?_
   intro b6 cap2 sp2 hs2 hcap2 hcm2 hF6 hz6
   simp only [Nb_cons, Nb_app, Nb_nil] at hz6
   clear a2 a4 a6 nn
   simp only [*, List.append_assoc, List.append_nil, ↓ZD, ZW, RO, simprocAttr]
   refine CallE.pure (rmust_pure _ hW t.2 [58]) ?_
   simp only [*, List.append_assoc, List.append_nil, ↓ZD, ZW, RO, simprocAttr]
   refine NewB.n ?_
   intro b7 hz7 hF7
   simp only [Nb_cons, Nb_app, Nb_nil] at hz7
   simp only [*, List.append_assoc, List.append_nil, ↓ZD, ZW, RO, simprocAttr]
   refine CallE.rq (p := (mustS ws t.2 [58])) (s := (mustS ws t.2 [58])) ((h1 m (by omega)).mono hFF) Agr.rfl' hgq hR3 (by simp only [*, List.append_assoc, List.append_nil, ↓ZD, ZW, RO, simprocAttr]) ?_
   rintro p1 cs1 G1 hA1 hr1 ⟨c12, hd1, hx1, hw1⟩
   simp only [Dj_cons, Dj_app, Dj_nil] at hd1
   have cok := c12.2.1
   simp only [*, List.append_assoc, List.append_nil, ↓ZD, ZW, RO, simprocAttr]
   refine NewB.n ?_
   intro b8 hz8 hF8
   simp only [Nb_cons, Nb_app, Nb_nil] at hz8
   simp only [*, List.append_assoc, List.append_nil, ↓ZD, ZW, RO, simprocAttr]
   have d1 : Dj G1 Hk := Dj.symm (by simp only [*, ↓ZD, ZW, RO, simprocAttr])
   refine EfL.more (m := 1) (nw := cs1) hk (by simp only [*, ↓ZD, ZW, RO, simprocAttr]) (by simp only [*, ↓ZD, ZW, RO, simprocAttr]) (by rw [c12.1]) (List.all_eq_true.1 (Bool.and_eq_true_iff.1 cok).1) (by intro h; rw [h] at c12; cases c12.1) (by omega) ?_
   intro b9 cap sp hs hcap hcm hF9 hz9
   simp only [Nb_cons, Nb_app, Nb_nil] at hz9
   have hy := ItOk.add (F := F') (b := b1) (bo := b4) (ns := ns ++ [t.1]) (vn := .slice (some ⟨b6, 0, none⟩) (ns.length + 1) cap2) hA1 (hgq.go hR3) h12 c12.1 (OwnS.mk sp2 hF6 (by simp) (by simp) (by simp) (by simpa using hs2) (by simpa using hcap2) hcm2) (fun c h => by rcases List.mem_append.1 h with h | h; exact hnl c h; rw [List.mem_singleton.1 h]; exact hnm) (fun he => ⟨⟨(hr he0).1, fun i c t hc ht => ((hr he0).2 i c t hc ht).mono hx1⟩, hr1 he⟩) hF9 hs hcap hcm (by simp only [*, ↓ZD, ZW, RO, simprocAttr]) (by simp only [*, ↓ZD, ZW, RO, simprocAttr]) (fun e he => by rw [List.mem_singleton.1 he]; constructor <;> simp [*]) (Nb.all (b := b1) (H := G1) (by simp only [*, ↓ZD, ZW, RO, simprocAttr])) (Nb.all (b := b4) (H := G1) (by simp only [*, ↓ZD, ZW, RO, simprocAttr])) (Nb.all (b := b9) (H := [(b6, .cells ((ns.map fun s => Value.string (bs s)) ++ [Value.string (bs t.1)] ++ sp2).toArray 9 (0, 0))]) (by simp only [*, ↓ZD, ZW, RO, simprocAttr])) (Nb.all (b := b9) (H := G1) (by simp only [*, ↓ZD, ZW, RO, simprocAttr])) (fun e he e' he' => (Dj.iff.1 (show Dj [(b6, .cells ((ns.map fun s => Value.string (bs s)) ++ [Value.string (bs t.1)] ++ sp2).toArray 9 (0, 0))] G1 by simp only [*, ↓ZD, ZW, RO, simprocAttr]) e he e' he').symm) hw1 (by rw [List.length_append]; show ns.length + 1 ≤ css.length + 1; omega)
   simp only [show endOf 20 = [125] from rfl] at hR4
   simp only [*, List.append_assoc, List.append_nil, ↓ZD, ZW, RO, simprocAttr]
   refine CallE.pure (rIs_pure _ hW p1 [125]) ?_
   rw [show isS ws p1 [125] = isS ws s1 [125] from hA1.is]
   rcases tf (isS ws s1 [125]) with hi | hi
   ·rw [hi, if_pos rfl] at hR4
    simp only [Option.some.injEq, Prod.mk.injEq] at hR4
    obtain ⟨rfl, rfl⟩ := hR4
    have he1 := isS_ok hi
    obtain rfl := hA1.ok he1
    have hrg := isS_range hi
    have hw2 : IntKind.i64.wrap (p1.p + 1) = p1.p + 1 := by rw [wrap_i64]; omega
    replace he1 : id (p1.e = 0) := he1
    simp only [*, List.append_assoc, List.append_nil, ↓ZD, ZW, RO, simprocAttr]
    refine TreeL.open ?_
    simp only [*, ↓ZD, ZW, RO, simprocAttr]
    repeat' (first | exact RFin.m (p' := adv p1) _ Agr.rfl' ⟨rfl, rfl, rfl, rfl⟩ (fun he => it_rep hy (i64_lit rfl) he1 (by simp only [List.length_append, List.length_cons, List.length_nil]; omega)) (it_wkx hy) (by simp +contextual) | apply And.intro)
   rw [hi, if_neg (by decide)] at hR4
   simp only [*, List.append_assoc, List.append_nil, ↓ZD, ZW, RO, simprocAttr]
   refine CallE.pure (rmust_pure _ hW p1 [44]) ?_
   simp only [*, List.append_assoc, List.append_nil, ↓ZD, ZW, RO, simprocAttr]
   refine invK.on ⟨{ (_ : ItS) with p := mustS ws p1 [44], s := mustS ws s1 [44] }, m⟩ ⟨hy.st hA1.must (hgq.go hR3).must fun he => must_e he, ⟨by simp only [*, ↓ZD, ZW, RO, simprocAttr], by simp only [*, ↓ZD, ZW, RO, simprocAttr]⟩, ⟨by simp only [*, ↓ZD, ZW, RO, simprocAttr], by simp only [*, ↓ZD, ZW, RO, simprocAttr]⟩, ⟨by simp only [*, ↓ZD, ZW, RO, simprocAttr], by simp only [*, ↓ZD, ZW, RO, simprocAttr]⟩, (fun h => absurd rfl h), fun he => ?_, by show m ≤ N; omega, hR4⟩ (by show m < m + 1; omega) (by simp only [*, ↓ZD, ZW, RO, simprocAttr]) (by simp only [*, List.append_assoc, List.append_nil, ↓ZD, ZW, RO, simprocAttr])
   have hm1 := must_in he
   have hs1 := must_e he
   have hf := h20 hs1
   have h0 := hc0
   show ((css ++ [cs1]).length : Int) ≤ (mustS ws s1 [44]).p ∧ (mustS ws s1 [44]).p ≤ ws.length
   rw [List.length_append, List.length_cons, List.length_nil, hm1.2.2]
   omega
 ·have hd : (p.e == 0) = false := by rw [hA.e]; simpa using he0
  obtain ⟨rfl, rfl⟩ := G_err he0 _ _ hR
  simp only [*, ↓ZD, ZW, RO, simprocAttr]
  refine TreeL.open ?_
  simp only [*, ↓ZD, ZW, RO, simprocAttr]
  repeat' (first | exact ⟨p, _, [], hA, rfl, ⟨rfl, by simp only [*, ↓ZD, ZW, RO, simprocAttr], rfl, rfl⟩, fun he => absurd he he0, Wk.nil, all_nil⟩ | apply And.intro)
end Go.Proofs.YtnenbihkcjgddaaGreatDoor
namespace Go.Proofs.YtnenbihkcjgddaaGreatDoor
open Go Go.Eng
set_option maxHeartbeats 1000000
set_option linter.unusedSimpArgs false
set_option linter.unusedVariables false
set_option maxRecDepth 20000
theorem rnamed_does (F' : Base) {ws : Ws} (hws : WsOk ws) {l : Value} (hW : HasW F' ws l) (p : St) (he0 : p.e = 0) (hp : 0 ≤ p.p ∧ p.p < ws.length) :
  Does Tryz.prog F' 131 #[PV l p, .string (bs (wdAt ws p.p).1.2.1)] [] (RPost F' l (nameG ws p).1 (nameG ws p).2) := by
 have hol := hW.one'
 have hlen := hW.len
 have hw1 : IntKind.i64.wrap (p.p + 1) = p.p + 1 := by rw [wrap_i64]; omega
 replace he0 : id (p.e = 0) := he0
 refine Does.rfin (does_of_svc (args := [PV l p, .string (bs (wdAt ws p.p).1.2.1)]) mixed Tryz.func131 low131 (Nat.le_of_ble_eq_true rfl) fun w0 hw0 => ?_)
 simp only [*, fu131, ↓ZD, ZW, RO, simprocAttr]
 refine NewB.n ?_
 rintro b1 _ _
 simp only [*, ↓ZD, ZW, RO, simprocAttr]
 refine NewB.n ?_
 rintro b2 ⟨_, _, _⟩ _
 simp only [*, ↓ZD, ZW, RO, simprocAttr]
 refine NewB.n ?_
 rintro b3 ⟨_, _, _, _, _⟩ _
 simp only [*, ↓ZD, ZW, RO, simprocAttr]
 unfold nameG wtx
 rcases tf ((wdAt ws p.p).1.2.1 == [116, 114, 117, 101] || (wdAt ws p.p).1.2.1 == [102, 97, 108, 115, 101]) with hd1 | hd1
 ·rw [if_pos (by rw [Bool.or_eq_true, beq_iff_eq, beq_iff_eq] at hd1; exact hd1)]
  simp only [*, ↓ZD, ZW, RO, simprocAttr]
  repeat' (first | exact RFin.m (p' := adv p) [] Agr.rfl' ⟨rfl, rfl, rfl, rfl⟩ (fun _ => repP_leaf (op := 1) (v := ⟨1, (wdAt ws p.p).1.2.1 == [116, 114, 117, 101], 0, [], [], []⟩) (nm := []) (i64_lit rfl) (i64_lit rfl) (i64_lit rfl)) Wk.nil all_nil | apply And.intro)
 rw [if_neg (by rintro (h | h) <;> simp [h] at hd1)]
 simp only [*, ↓ZD, ZW, RO, simprocAttr]
 refine CallE.pure (rbehind_pure F' hW p hp) ?_
 simp only [*, wdV, ↓ZD, ZW, RO, simprocAttr]
 refine NewB.n ?_
 rintro b4 ⟨_, _, _, _, _, _, _⟩ _
 simp only [*, wdV, ↓ZD, ZW, RO, simprocAttr]
 rcases tf (((((wdAt ws (p.p + 1)).1.1 : Nat) : Int) == 5) && (wdAt ws (p.p + 1)).1.2.1 == [58, 58]) with hd2 | hd2
 ·rw [if_pos (by rw [Bool.and_eq_true, beq_iff_eq, beq_iff_eq] at hd2; exact hd2)]
  simp only [*, ↓ZD, ZW, RO, simprocAttr]
  refine CallE.pure (rUid_pure F' hws hW p (rpath_pure F' hws hW p)) ?_
  simp only [*, ↓ZD, ZW, RO, simprocAttr]
  refine NewB.n ?_
  rintro b5 ⟨_, _, _, _, _, _, _, _, _⟩ _
  simp only [*, ↓ZD, ZW, RO, simprocAttr]
  refine NewB.n ?_
  rintro b6 ⟨_, _, _, _, _, _, _, _, _, _, _⟩ _
  simp only [*, ↓ZD, ZW, RO, simprocAttr]
  try refine TreeL.open ?_
  try simp only [*, ↓ZD, ZW, RO, simprocAttr]
  repeat' (first | exact RFin.m (p' := (uidS ws p).2) [] Agr.rfl' ⟨rfl, rfl, rfl, rfl⟩ (fun _ => repP_leaf (op := 1) (v := ⟨4, false, 0, [], (uidS ws p).1.1, (uidS ws p).1.2⟩) (nm := []) (i64_lit rfl) (i64_lit rfl) (i64_lit rfl)) Wk.nil all_nil | apply And.intro)
 rw [if_neg (by rintro ⟨h, h2⟩; simp [h, h2] at hd2)]
 have key : decide ((wdAt ws p.p).1.2.1 ∈ varL) = ((wdAt ws p.p).1.2.1 == [112, 114, 105, 110, 99, 105, 112, 97, 108] || (wdAt ws p.p).1.2.1 == [97, 99, 116, 105, 111, 110] || (wdAt ws p.p).1.2.1 == [114, 101, 115, 111, 117, 114, 99, 101] || (wdAt ws p.p).1.2.1 == [99, 111, 110, 116, 101, 120, 116]) := by rw [Bool.eq_iff_iff]; simp [varL, Bool.or_eq_true, or_assoc]
 rcases tf ((wdAt ws p.p).1.2.1 == [112, 114, 105, 110, 99, 105, 112, 97, 108] || (wdAt ws p.p).1.2.1 == [97, 99, 116, 105, 111, 110] || (wdAt ws p.p).1.2.1 == [114, 101, 115, 111, 117, 114, 99, 101] || (wdAt ws p.p).1.2.1 == [99, 111, 110, 116, 101, 120, 116]) with hd3 | hd3
 ·rw [if_pos (of_decide_eq_true (key.trans hd3))]
  clear key
  simp only [*, ↓ZD, ZW, RO, simprocAttr]
  repeat' (first | exact RFin.m (p' := adv p) [] Agr.rfl' ⟨rfl, rfl, rfl, rfl⟩ (fun _ => repP_leaf (op := 2) (v := lv0) (nm := (wdAt ws p.p).1.2.1) (i64_lit rfl) (i64_lit rfl) (i64_lit rfl)) Wk.nil all_nil | apply And.intro)
 rw [if_neg (of_decide_eq_false (key.trans hd3))]
 clear key
 simp only [*, ↓ZD, ZW, RO, simprocAttr]
 refine CallE.pure (rfail_pure F' hW p 10) ?_
 simp only [*, ↓ZD, ZW, RO, simprocAttr]
 repeat' (first | exact RFin.m (p' := (failS ws p 10)) [] Agr.rfl' ⟨rfl, rfl, rfl, rfl⟩ (fun he => absurd he (failS_e (by decide))) Wk.nil all_nil | apply And.intro)
set_option maxHeartbeats 8000000 in
theorem rprimary_prs (F : Base) {ws : Ws} (hws : WsOk ws) {l : Value} (hW : HasW F ws l) (n : Nat) (h1 : ∀ m ≤ n, RPrs F l 41 [] (G ws m .expr)) : RPrs F l 125 [] (fun s => if s.e = 0 then primG ws (G ws n) s else some (nilX, s)) := by
 intro F' hFF p s x s' hA hg hR
 have hW9 := hW
 have hW := hW.mono hFF
 have hol := hW.one'
 refine Does.rfin (does_of_svc (args := [PV l p]) mixed Tryz.func125 low125 (Nat.le_of_ble_eq_true rfl) fun w0 hw0 => ?_)
 simp only [*, fu125, ↓ZD, ZW, RO, simprocAttr]
 refine NewB.n ?_
 rintro b1 _ _
 simp only [*, ↓ZD, ZW, RO, simprocAttr]
 refine NewB.n ?_
 rintro b2 ⟨_, _, _⟩ _
 simp only [*, ↓ZD, ZW, RO, simprocAttr]
 refine NewB.n ?_
 rintro b3 ⟨_, _, _, _, _⟩ _
 simp only [*, ↓ZD, ZW, RO, simprocAttr]
 refine CallE.pure (rword_pure F' hW p) ?_
 have hR : (if s.e = 0 then primG ws (G ws n) s else some (nilX, s)) = some (x, s') := hR
 by_cases he0 : s.e = 0
 ·rw [if_pos he0] at hR
  obtain rfl := hA.ok he0
  have hd : (p.e != 0) = false := by simpa using he0
  have hlen := hW.len
  unfold primG wk at hR
  replace he0 : id (p.e = 0) := he0
  have hrg := in_range (ws := ws) (p := p.p)
  have hw1 : (((wdAt ws p.p).1.1 : Nat) : Int) ≠ 0 → IntKind.i64.wrap (p.p + 1) = p.p + 1 := fun h => by have := hrg (by omega); rw [wrap_i64]; omega
  rcases tf ((((wdAt ws p.p).1.1 : Nat) : Int) == 1) with hK1 | hK1
  ·have hx : (((wdAt ws p.p).1.1 : Nat) : Int) = 1 := beq_iff_eq.1 hK1
   have hw1 := hw1 (by omega)
   replace hrg := hrg (by omega)
   rw [if_neg (by omega), if_neg (by omega), if_neg (by omega), if_pos (by omega)] at hR
   simp only [Option.some.injEq] at hR
   clear hw1
   simp only [*, wdV, ↓ZD, ZW, RO, simprocAttr]
   refine NewB.n ?_
   rintro b4 ⟨_, _, _, _, _, _, _⟩ _
   simp only [*, wdV, ↓ZD, ZW, RO, simprocAttr]
   refine CallE.rqd (x := (nameG ws p).1) (s' := (nameG ws p).2) (rnamed_does F' hws hW p he0 hrg) (by simp only [*, ↓ZD, ZW, RO, simprocAttr]) ?_
   rintro p1 cs1 G1 hA1 hr1 ⟨_, ⟨_, _, _, _, _⟩, hx1, _⟩
   rw [hR] at hA1 hr1
   simp only at hA1 hr1
   simp only [*, wdV, ↓ZD, ZW, RO, simprocAttr]
   repeat' (first | exact RFin.g hA1 ‹_› hr1 ‹_› | apply And.intro)
  have hx1 : (((wdAt ws p.p).1.1 : Nat) : Int) ≠ 1 := beq_eq_false_iff_ne.1 hK1
  rcases tf ((((wdAt ws p.p).1.1 : Nat) : Int) == 2) with hK2 | hK2
  ·have hx : (((wdAt ws p.p).1.1 : Nat) : Int) = 2 := beq_iff_eq.1 hK2
   have hw1 := hw1 (by omega)
   replace hrg := hrg (by omega)
   rw [if_pos (by omega)] at hR
   simp only [Option.some.injEq, Prod.mk.injEq] at hR
   obtain ⟨rfl, rfl⟩ := hR
   simp only [*, wdV, ↓ZD, ZW, RO, simprocAttr]
   refine NewB.n ?_
   rintro b4 ⟨_, _, _, _, _, _, _⟩ _
   simp only [*, wdV, ↓ZD, ZW, RO, simprocAttr]
   refine TreeL.open ?_
   simp only [*, wdV, ↓ZD, ZW, RO, simprocAttr]
   repeat' (first | exact RFin.m (p' := adv p) [] Agr.rfl' ⟨rfl, rfl, rfl, rfl⟩ (fun _ => repP_leaf (op := 1) (v := ⟨2, false, (wdAt ws p.p).1.2.2, [], [], []⟩) (nm := []) (i64_lit rfl) (i64_lit rfl) (wdAt_ok hws p.p).2.1) Wk.nil all_nil | apply And.intro)
  have hx2 : (((wdAt ws p.p).1.1 : Nat) : Int) ≠ 2 := beq_eq_false_iff_ne.1 hK2
  rcases tf ((((wdAt ws p.p).1.1 : Nat) : Int) == 3) with hK3 | hK3
  ·have hx : (((wdAt ws p.p).1.1 : Nat) : Int) = 3 := beq_iff_eq.1 hK3
   have hw1 := hw1 (by omega)
   replace hrg := hrg (by omega)
   rw [if_neg (by omega), if_pos (by omega)] at hR
   simp only [Option.some.injEq, Prod.mk.injEq] at hR
   obtain ⟨rfl, rfl⟩ := hR
   simp only [*, wdV, ↓ZD, ZW, RO, simprocAttr]
   refine NewB.n ?_
   rintro b4 ⟨_, _, _, _, _, _, _⟩ _
   simp only [*, wdV, ↓ZD, ZW, RO, simprocAttr]
   refine TreeL.open ?_
   simp only [*, wdV, ↓ZD, ZW, RO, simprocAttr]
   repeat' (first | exact RFin.m (p' := adv p) [] Agr.rfl' ⟨rfl, rfl, rfl, rfl⟩ (fun _ => repP_leaf (op := 1) (v := ⟨3, false, 0, (wdAt ws p.p).1.2.1, [], []⟩) (nm := []) (i64_lit rfl) (i64_lit rfl) (i64_lit rfl)) Wk.nil all_nil | apply And.intro)
  have hx3 : (((wdAt ws p.p).1.1 : Nat) : Int) ≠ 3 := beq_eq_false_iff_ne.1 hK3
  rcases tf ((((wdAt ws p.p).1.1 : Nat) : Int) == 4) with hK4 | hK4
  ·have hx : (((wdAt ws p.p).1.1 : Nat) : Int) = 4 := beq_iff_eq.1 hK4
   have hw1 := hw1 (by omega)
   replace hrg := hrg (by omega)
   rw [if_neg (by omega), if_neg (by omega), if_pos (by omega)] at hR
   have key : decide (wtx ws p ∈ slotL) = !(!(wdAt ws p.p).1.2.1 == [112, 114, 105, 110, 99, 105, 112, 97, 108] && !(wdAt ws p.p).1.2.1 == [114, 101, 115, 111, 117, 114, 99, 101]) := by rw [Bool.eq_iff_iff]; simp [slotL, wtx]
   rcases tf (!(wdAt ws p.p).1.2.1 == [112, 114, 105, 110, 99, 105, 112, 97, 108] && !(wdAt ws p.p).1.2.1 == [114, 101, 115, 111, 117, 114, 99, 101]) with hd3 | hd3
   ·rw [if_neg (of_decide_eq_false (key.trans (by rw [hd3]; rfl)))] at hR
    simp only [Option.some.injEq, Prod.mk.injEq] at hR
    obtain ⟨rfl, rfl⟩ := hR
    clear key
    simp only [*, wdV, ↓ZD, ZW, RO, simprocAttr]
    refine NewB.n ?_
    rintro b4 ⟨_, _, _, _, _, _, _⟩ _
    simp only [*, wdV, ↓ZD, ZW, RO, simprocAttr]
    refine CallE.pure (rfail_pure F' hW p 10) ?_
    simp only [*, ↓ZD, ZW, RO, simprocAttr]
    repeat' (first | exact RFin.m (p' := (failS ws p 10)) [] Agr.rfl' ⟨rfl, rfl, rfl, rfl⟩ (fun he => absurd he (failS_e (by decide))) Wk.nil all_nil | apply And.intro)
   rw [if_pos (of_decide_eq_true (key.trans (by rw [hd3]; rfl)))] at hR
   simp only [Option.some.injEq, Prod.mk.injEq] at hR
   obtain ⟨rfl, rfl⟩ := hR
   clear key
   simp only [*, wdV, ↓ZD, ZW, RO, simprocAttr]
   refine NewB.n ?_
   rintro b4 ⟨_, _, _, _, _, _, _⟩ _
   simp only [*, wdV, ↓ZD, ZW, RO, simprocAttr]
   refine TreeL.open ?_
   simp only [*, wdV, ↓ZD, ZW, RO, simprocAttr]
   repeat' (first | exact RFin.m (p' := adv p) [] Agr.rfl' ⟨rfl, rfl, rfl, rfl⟩ (fun _ => repP_leaf (op := 3) (v := lv0) (nm := (wdAt ws p.p).1.2.1) (i64_lit rfl) (i64_lit rfl) (i64_lit rfl)) Wk.nil all_nil | apply And.intro)
  have hx4 : (((wdAt ws p.p).1.1 : Nat) : Int) ≠ 4 := beq_eq_false_iff_ne.1 hK4
  clear hw1 hrg
  rw [if_neg hx2, if_neg hx3, if_neg hx4, if_neg hx1] at hR
  simp only [*, wdV, ↓ZD, ZW, RO, simprocAttr]
  refine NewB.n ?_
  rintro b4 ⟨_, _, _, _, _, _, _⟩ _
  simp only [*, wdV, ↓ZD, ZW, RO, simprocAttr]
  refine CallE.pure (rIs_pure _ hW p [40]) ?_
  rcases tf (isS ws p [40]) with hi | hi
  ·rw [hi, if_pos rfl] at hR
   obtain ⟨⟨x1, s1⟩, hR1, hR⟩ := map_some' hR
   simp only [Prod.mk.injEq] at hR
   obtain ⟨rfl, rfl⟩ := hR
   have hrg := isS_range hi
   have hw1 : IntKind.i64.wrap (p.p + 1) = p.p + 1 := by rw [wrap_i64]; omega
   simp only [*, ↓ZD, ZW, RO, simprocAttr]
   refine NewB.n ?_
   rintro b5 ⟨_, _, _, _, _, _, _, _, _⟩ _
   simp only [*, ↓ZD, ZW, RO, simprocAttr]
   refine CallE.rq (p := adv p) (s := adv p) ((h1 n (Nat.le_refl _)).mono hFF) Agr.rfl' hg.adv hR1 (by simp only [*, ↓ZD, ZW, RO, simprocAttr]) ?_
   rintro p1 cs1 G1 hA1 hr1 ⟨_, ⟨_, _, _, _, _, _⟩, hx1, _⟩
   simp only [*, wdV, ↓ZD, ZW, RO, simprocAttr]
   refine TreeL.open ?_
   simp only [*, wdV, ↓ZD, ZW, RO, simprocAttr]
   repeat' (refine And.intro ?_ ?_)
   all_goals (
    refine CallQ.of _ (rmust_pure _ (hW.mono le_up) p1 [41]) ?_
    simp only [*, wdV, ↓ZD, ZW, RO, simprocAttr]
    repeat' (first | exact RFin.g hA1.must ‹_› (fun he => hr1 (must_e he)) ‹_› | apply And.intro))
  rw [hi, if_neg (by decide)] at hR
  simp only [*, ↓ZD, ZW, RO, simprocAttr]
  refine CallE.pure (rIs_pure _ hW p [91]) ?_
  rcases tf (isS ws p [91]) with hi19 | hi19
  ·rw [hi19, if_pos rfl] at hR
   have hrg := isS_range hi19
   simp only [*, ↓ZD, ZW, RO, simprocAttr]
   refine CallE.rqd (ritems19_does F hws hW9 n h1 F' hFF p s' x hg hrg hR) (by simp only [*, ↓ZD, ZW, RO, simprocAttr]) ?_
   rintro p1 cs1 G1 hA1 hr1 ⟨_, ⟨_, _, _, _, _⟩, hx1, _⟩
   simp only [*, wdV, ↓ZD, ZW, RO, simprocAttr]
   repeat' (first | exact RFin.g hA1 ‹_› hr1 ‹_› | apply And.intro)
  rw [hi19, if_neg (by decide)] at hR
  simp only [*, ↓ZD, ZW, RO, simprocAttr]
  refine CallE.pure (rIs_pure _ hW p [123]) ?_
  rcases tf (isS ws p [123]) with hi20 | hi20
  ·rw [hi20, if_pos rfl] at hR
   have hrg := isS_range hi20
   simp only [*, ↓ZD, ZW, RO, simprocAttr]
   refine CallE.rqd (ritems20_does F hws hW9 n h1 F' hFF p s' x hg hrg hR) (by simp only [*, ↓ZD, ZW, RO, simprocAttr]) ?_
   rintro p1 cs1 G1 hA1 hr1 ⟨_, ⟨_, _, _, _, _⟩, hx1, _⟩
   simp only [*, wdV, ↓ZD, ZW, RO, simprocAttr]
   repeat' (first | exact RFin.g hA1 ‹_› hr1 ‹_› | apply And.intro)
  rw [hi20, if_neg (by decide)] at hR
  simp only [*, ↓ZD, ZW, RO, simprocAttr]
  simp only [Option.some.injEq, Prod.mk.injEq] at hR
  obtain ⟨rfl, rfl⟩ := hR
  refine CallE.pure (rfail_pure F' hW p 10) ?_
  simp only [*, ↓ZD, ZW, RO, simprocAttr]
  repeat' (first | exact RFin.m (p' := (failS ws p 10)) [] Agr.rfl' ⟨rfl, rfl, rfl, rfl⟩ (fun he => absurd he (failS_e (by decide))) Wk.nil all_nil | apply And.intro)
 ·rw [if_neg he0] at hR
  simp only [Option.some.injEq, Prod.mk.injEq] at hR
  obtain ⟨rfl, rfl⟩ := hR
  have hd : (p.e != 0) = true := by rw [hA.e]; simpa using he0
  simp only [*, wdV, ↓ZD, ZW, RO, simprocAttr]
  refine NewB.n ?_
  rintro b4 ⟨_, _, _, _, _, _, _⟩ _
  simp only [*, wdV, ↓ZD, ZW, RO, simprocAttr]
  repeat' (first | exact RFin.m (p' := p) [] hA ⟨rfl, rfl, rfl, rfl⟩ (fun he => absurd he (he0)) Wk.nil all_nil | apply And.intro)
end Go.Proofs.YtnenbihkcjgddaaGreatDoor
namespace Go.Proofs.YtnenbihkcjgddaaGreatDoor
open Go Go.Eng
set_option maxHeartbeats 1000000
set_option linter.unusedSimpArgs false
set_option linter.unusedVariables false
set_option maxRecDepth 20000
theorem rprs_none (F : Base) (l : Value) (f : Nat) (a : List Value) : RPrs F l f a (fun _ => none) := fun _ _ _ _ _ _ _ _ h => by cases h
structure AllR (F : Base) (ws : Ws) (l : Value) (n : Nat) : Prop where
 ex : RPrs F l 41 [] (G ws n .expr)
 un : RPrs F l 106 [] (G ws n .unary)
 pr : RPrs F l 125 [] (G ws n .prim)
 me : RPrs F l 118 [] (G ws n .member)
 l3 : RPrs F l 75 [.int .i64 3] (G ws n (.lev 3))
 l2 : RPrs F l 75 [.int .i64 2] (G ws n (.lev 2))
 re : RPrs F l 105 [] (G ws n .rel)
 l1 : RPrs F l 75 [.int .i64 1] (G ws n (.lev 1))
 l0 : RPrs F l 75 [.int .i64 0] (G ws n (.lev 0))
theorem allR0 (F : Base) {ws : Ws} (hws : WsOk ws) {l : Value} (hW : HasW F ws l) : AllR F ws l 0 := by
 have dn : ∀ {nt : NT} {f : Nat} {a : List Value}, RPrs F l f a (G ws 1 nt) → RPrs F l f a (G ws 0 nt) := fun h => h.weak fun s y hy => G_mono1 ws 0 _ _ _ hy
 have ex : RPrs F l 41 [] (G ws 0 .expr) := (rexpr_prs F hws hW (fun _ _ => none) (fun _ _ _ h => by cases h) (rprs_none F l _ _) (rprs_none F l _ _)).weak fun s y hy => by
  obtain ⟨he, rfl⟩ := G_zero hy; exact if_neg he
 have un : RPrs F l 106 [] (G ws 0 .unary) := (runary_prs F hws hW (fun _ _ => none) (fun _ _ _ h => by cases h) (rprs_none F l _ _) (rprs_none F l _ _)).weak fun s y hy => by
  obtain ⟨he, rfl⟩ := G_zero hy; exact if_neg he
 have z : ∀ {P : Nat → Prop}, P 0 → ∀ n ≤ 0, P n := fun h n hn => Nat.le_zero.1 hn ▸ h
 have pr := dn (nt := .prim) ((rprimary_prs F hws hW 0 (z ex)).weak fun s y hy => hy)
 have me := dn (rmember_prs F hW 0 pr (z ex))
 have l3 := dn (rlev3_prs F hW 0 (z (rlower3_prs F hW 0 un)))
 have l2 := dn (rlev2_prs F hW 0 (z (rlower2_prs F hW 0 l3)))
 have re := dn (nt := .rel) ((rrel_prs F hws hW 0 l2).weak fun s y hy => hy)
 have l1 := dn (rlev1_prs F hW 0 (z (rlower1_prs F hW 0 re)))
 have l0 := dn (rlev0_prs F hW 0 (z (rlower0_prs F hW 0 l1)))
 exact ⟨ex, un, pr, me, l3, l2, re, l1, l0⟩
theorem allR (F : Base) {ws : Ws} (hws : WsOk ws) {l : Value} (hW : HasW F ws l) : ∀ n, AllR F ws l n := by
 intro n
 induction n using Nat.strongRecOn with
 | _ n ih =>
  cases n with
  | zero => exact allR0 F hws hW
  | succ k =>
   have le : ∀ m ≤ k, AllR F ws l m := fun m hm => ih m (by omega)
   have hk := le k (Nat.le_refl _)
   refine ⟨?_, ?_, ?_, ?_, ?_, ?_, ?_, ?_, ?_⟩
   ·exact (rexpr_prs F hws hW (G ws k) (G_goes ws k) hk.ex hk.l0).weak fun s y hy => hy
   ·exact (runary_prs F hws hW (G ws k) (G_goes ws k) hk.un hk.me).weak fun s y hy => hy
   ·exact (rprimary_prs F hws hW k fun m hm => (le m hm).ex).weak fun s y hy => hy
   ·exact rmember_prs F hW k hk.pr fun m hm => (le m hm).ex
   ·exact rlev3_prs F hW k fun m hm => rlower3_prs F hW m (le m hm).un
   ·exact rlev2_prs F hW k fun m hm => rlower2_prs F hW m (le m hm).l3
   ·exact (rrel_prs F hws hW k hk.l2).weak fun s y hy => hy
   ·exact rlev1_prs F hW k fun m hm => rlower1_prs F hW m (le m hm).re
   ·exact rlev0_prs F hW k fun m hm => rlower0_prs F hW m (le m hm).l1
end Go.Proofs.YtnenbihkcjgddaaGreatDoor
namespace Go.Proofs.YtnenbihkcjgddaaGreatDoor
open Go Go.Eng
set_option maxHeartbeats 1000000
set_option linter.unusedSimpArgs false
set_option linter.unusedVariables false
set_option maxRecDepth 20000
theorem rread_does (F : Base) {ws : Ws} (hws : WsOk ws) {l : Value} (hW : HasW F ws l) (i : Int) : Does Tryz.prog F 21 #[l, .int .i64 i] [] (ReadP F (readS ws i)) := by
 obtain ⟨bw, cap, sp, T, fz, rfl, hFw, -⟩ := id hW
 have hol := hW.one'
 refine Does.shr (K := fun r H' => ∃ cs Hx, r = .tuple #[.agg cs.toArray, .int .i64 (readS ws i).2.1, .int .i64 (readS ws i).2.2.1, .int .i64 (readS ws i).2.2.2] ∧ Ok12 cs ∧ RepP (rdObj F Hx) cs (readS ws i).1 ∧ Wk Hx ∧ ∀ e ∈ Hx, e ∈ H') ?_ fun r H' ⟨cs, Hx, h1, h2, h3, h4, h5⟩ => ⟨Hx, h5, cs, h1, h2, h3, h4⟩
 refine does_of_svc (args := [.slice (some ⟨bw, 0, none⟩) ws.length cap, .int .i64 i]) mixed Tryz.func21 low21 (Nat.le_of_ble_eq_true rfl) fun w0 hw0 => ?_
 obtain ⟨n, hn⟩ := runG_ex ws .expr (st0 i)
 unfold readS
 generalize runG ws .expr (st0 i) = y at *
 obtain ⟨x, s'⟩ := y
 simp (disch := first | assumption | exact Ne.symm (by assumption) | omega) only [fu21, hol, ↓ZD, ZW, simprocAttr]
 refine NewB.n ?_
 rintro b1 _ _
 simp only [*, ↓ZD, ZW, RO, simprocAttr]
 refine CallE.rq (p := st0 i) (s := st0 i) (allR F hws hW n).ex Agr.rfl' (st0_good i) hn (by simp only [*, ↓ZD, ZW, RO, simprocAttr]) ?_
 rintro p1 cs1 G1 hA1 hr1 ⟨_, ⟨_, _⟩, hx1, _⟩
 simp only [*, ↓ZD, ZW, RO, simprocAttr]
 refine NewB.n ?_
 rintro b2 ⟨_, _, _⟩ _
 simp only [*, ↓ZD, ZW, RO, simprocAttr]
 refine NewB.n ?_
 rintro b3 ⟨_, _, _, _, _⟩ _
 simp only [*, ↓ZD, ZW, RO, simprocAttr]
 by_cases he : s'.e = 0
 ·obtain rfl := hA1.ok he
  have hd : (p1.e != 0) = false := by simpa using he
  rw [if_pos he]
  replace he : id (p1.e = 0) := he
  simp only [*, ↓ZD, ZW, RO, simprocAttr]
  refine TreeL.open ?_
  simp only [*, ↓ZD, ZW, RO, simprocAttr]
  repeat' (first | exact ⟨cs1, G1, rfl, ‹_›, hr1 he, ‹_›, by simp +contextual⟩ | apply And.intro)
 ·have hd : (p1.e != 0) = true := by rw [hA1.e]; simpa using he
  rw [if_neg he, ← hA1.e, ← hA1.bad]
  clear he
  simp only [*, ↓ZD, ZW, RO, simprocAttr]
  try refine TreeL.open ?_
  try simp only [*, ↓ZD, ZW, RO, simprocAttr]
  repeat' (first | exact ⟨xcells 0 lv0 (.slice none 0 0) (.slice none 0 0) [] (.slice none 0 0) (.slice none 0 0), [], rfl, ⟨rfl, rfl, rfl, rfl⟩, repP_nil, Wk.nil, all_nil⟩ | apply And.intro)
end Go.Proofs.YtnenbihkcjgddaaGreatDoor
namespace Go.Proofs.YtnenbihkcjgddaaGreatDoor
open Go Go.Eng
set_option maxHeartbeats 1000000
set_option linter.unusedSimpArgs false
set_option linter.unusedVariables false
set_option maxRecDepth 20000
theorem stepU_pos (s : List UInt8) : 1 ≤ (stepU s).2 := by
 unfold stepU
 split
 ·split <;> simp
 ·simp
theorem unqL_le : ∀ (n : Nat) (s t : List UInt8), unqL n s = some t → t.length ≤ s.length
 | n, [], t, h => by
  cases n <;> (rw [unqL] at h; cases h; simp)
 | 0, c :: r, t, h => by rw [unqL] at h; cases h
 | n + 1, c :: r, t, h => by
  rw [unqL] at h
  split at h
  ·obtain ⟨u, hu, rfl⟩ := Option.map_eq_some_iff.1 h
   have h1 := unqL_le n _ u hu
   have h2 := stepU_pos (c :: r)
   rw [List.length_drop] at h1
   simp only [List.length_cons] at h1 ⊢
   omega
  ·cases h
theorem unquote_le {s t : List UInt8} (h : unquote s = some t) : t.length ≤ s.length := by
 unfold unquote at h
 split at h
 ·cases h
 ·have := unqL_le _ _ _ h
  rw [List.length_drop, List.length_take] at this
  omega
theorem qT_le (s : List UInt8) : (qX s).1.length ≤ s.length := by
 unfold qX
 split
 ·simp
 ·split
  ·simp
  ·rename_i h
   have := unquote_le h
   rw [List.length_take] at this
   simp only
   omega
theorem twos_ok : ∀ m ∈ marksL, m.length ≤ 2 := by decide
theorem markX_le (s : List UInt8) : (markX s).length ≤ 2 := by
 unfold markX
 cases h : marksL.find? fun m => Go.Lib.hasPrefix s m with
 | none => simp
 | some m => exact twos_ok m (List.mem_of_find?_eq_some h)
theorem takeWhile_le' (p : UInt8 → Bool) (s : List UInt8) : (s.takeWhile p).length ≤ s.length := by
 induction s with
 | nil => simp
 | cons c r ih => rw [List.takeWhile_cons]; split <;> simp <;> omega
theorem isLD_124 {c : UInt8} (h : isLD c = true) : c ≠ 124 := by
 rintro rfl; revert h; decide
theorem takeWhile_all' {p : UInt8 → Bool} : ∀ {s : List UInt8} {c : UInt8}, c ∈ s.takeWhile p → p c = true
 | [], c, h => by cases h
 | x :: r, c, h => by
  rw [List.takeWhile_cons] at h
  split at h
  ·rcases List.mem_cons.1 h with rfl | h
   ·assumption
   ·exact takeWhile_all' h
  ·cases h
theorem nameX_124 (s : List UInt8) : ∀ c ∈ nameX s, c ≠ 124 := by
 cases s with
 | nil => intro c h; cases h
 | cons x r =>
  rw [nameX]
  split
  ·rename_i hx
   intro c h
   rcases List.mem_cons.1 h with rfl | h
   ·exact isLD_124 (by unfold isLD; rw [hx]; rfl)
   ·exact isLD_124 (takeWhile_all' h)
  ·intro c h; cases h
theorem readD_i64 (l : List UInt8) : I64 (readD false l).1 := by
 unfold readD
 split
 ·unfold I64; decide
 ·rw [if_neg (by decide)]
  unfold fitR
  split
  ·assumption
  ·exact ⟨by decide, by decide⟩
theorem tok_ok {s : List UInt8} {w : Wd} {m : Nat} (hs : s.length ≤ 65536) (h : tok s = .ok (w, m)) : w.2.1.length ≤ 65536 ∧ I64 w.2.2 ∧ (w.1 = 1 → ∀ c ∈ w.2.1, c ≠ 124) := by
 unfold tok at h
 split at h
 ·cases h
 ·split at h
  ·cases h
  ·injection h with h
   injection h with h _
   subst h
   have h0 : I64 0 := by unfold I64; decide
   unfold oneX
   split
   ·exact ⟨Nat.le_trans (nameX_le s) hs, h0, fun _ => nameX_124 s⟩
   ·split
    ·exact ⟨Nat.le_trans (takeWhile_le' _ s) hs, readD_i64 _, fun h => by simp at h⟩
    ·split
     ·exact ⟨Nat.le_trans (qT_le s) hs, h0, fun h => by simp at h⟩
     ·split
      ·split
       ·exact ⟨by simp, h0, fun h => by simp at h⟩
       ·refine ⟨Nat.le_trans (nameX_le _) ?_, h0, fun h => by simp at h⟩
        rw [List.length_drop]; omega
      ·split
       ·exact ⟨by decide, h0, fun h => by simp at h⟩
       ·split
        ·exact ⟨by simp, h0, fun h => by simp at h⟩
        ·exact ⟨Nat.le_trans (markX_le s) (by decide), h0, fun h => by simp at h⟩
theorem w1_ok : ∀ (n a : Nat) (s : List UInt8) (l : List (Wd × Nat)), s.length ≤ 65536 → w1 n a s = .ok l → l.length ≤ s.length + 1 ∧ ∀ w ∈ l, w.1.2.1.length ≤ 65536 ∧ I64 w.1.2.2 ∧ (w.1.1 = 1 → ∀ c ∈ w.1.2.1, c ≠ 124)
 | 0, _, _, l, _, h => by
  rw [w1] at h; injection h with h; subst h
  exact ⟨by simp, fun w hw => by cases hw⟩
 | n + 1, a, s, l, hs, h => by
  rw [w1] at h
  split at h
  ·injection h with h; subst h
   refine ⟨by simp, fun w hw => ?_⟩
   rw [List.mem_singleton.1 hw]
   exact ⟨by simp, (show I64 0 from ⟨by decide, by decide⟩), fun h => by simp at h⟩
  ·rename_i hne
   split at h
   ·cases h
   ·rename_i w m hk
    split at h
    ·cases h
    ·rename_i l' hl
     injection h with h; subst h
     have h1 := tok_len hk
     have h2 : (s.drop (m + blankN (s.drop m))).length ≤ s.length - 1 := by rw [List.length_drop]; omega
     have hpos : 0 < s.length := List.length_pos_iff.2 hne
     obtain ⟨i1, i2⟩ := w1_ok n _ _ l' (by omega) hl
     refine ⟨by rw [List.length_cons]; omega, fun x hx => ?_⟩
     rcases List.mem_cons.1 hx with rfl | hx
     ·exact tok_ok hs hk
     ·exact i2 x hx
theorem words_ok {s : List UInt8} {l : List (Wd × Nat)} (hs : s.length ≤ 65536) (h : words s = .ok l) : WsOk l := by
 have hd : (s.drop (blankN s)).length ≤ s.length := by rw [List.length_drop]; omega
 obtain ⟨h1, h2⟩ := w1_ok _ _ _ l (Nat.le_trans hd hs) h
 exact ⟨by omega, h2⟩
theorem words_ne' {s : List UInt8} {l : List (Wd × Nat)} (h : words s = .ok l) : l ≠ [] := by
 rintro rfl
 unfold words at h
 rw [w1] at h
 split at h
 ·cases h
 ·split at h
  ·cases h
  ·split at h
   ·cases h
   ·cases h
end Go.Proofs.YtnenbihkcjgddaaGreatDoor
namespace Go.Proofs.YtnenbihkcjgddaaGreatDoor
open Go Go.Eng
set_option maxHeartbeats 1000000
set_option linter.unusedSimpArgs false
set_option linter.unusedVariables false
set_option linter.unusedSectionVars false
set_option maxRecDepth 20000
mutual
def depX : Ex' → Nat
 | .mk _ _ _ kids _ => depXL kids + 1
def depXL : List Ex' → Nat
 | [] => 0
 | x :: l => max (depX x) (depXL l)
end
theorem depXL_app : ∀ l m, depXL (l ++ m) = max (depXL l) (depXL m)
 | [], m => by simp [depXL]
 | x :: l, m => by rw [List.cons_append, depXL, depXL, depXL_app, Nat.max_assoc]
theorem dep_two (op : Int) (a b : Ex') : depX (twoX op a b) = max (depX a) (depX b) + 1 := by simp [twoX, depX, depXL]
theorem dep_one (op : Int) (nm : Str) (a : Ex') : depX (oneX' op nm a) = depX a + 1 := by simp [oneX', depX, depXL]
theorem dep_lit (v : LV) : depX (litX v) = 1 := by simp [litX, depX, depXL]
theorem dep_leaf (op : Int) (v : LV) (nm : Str) (ns : List Str) : depX (.mk op v nm [] ns) = 1 := by simp [depX, depXL]
theorem dep_if (op : Int) (v : LV) (nm : Str) (a b c : Ex') : depX (.mk op v nm [a, b, c] []) = max (depX a) (max (depX b) (depX c)) + 1 := by simp [depX, depXL]
theorem dep_its (op : Int) (v : LV) (nm : Str) (ks : List Ex') (a : Ex') (ns : List Str) : depX (.mk op v nm (ks ++ [a]) ns) = max (depXL ks) (depX a) + 1 := by simp [depX, depXL, depXL_app]
def depN : NT → Nat
 | .rows _ x => depX x
 | .mems x => depX x
 | .its _ _ ks => depXL ks + 1
 | _ => 0
def Dp (c : Nat) (s : St) (y : Ex' × St) : Prop := y.2.e = 0 → (depX y.1 : Int) ≤ c + 2 * (y.2.p - s.p)
def GoesDp (g : NT → St → Option (Ex' × St)) : Prop := ∀ nt s y, g nt s = some y → Dp (depN nt) s y
theorem adv_p (s : St) : (adv s).p = s.p + 1 := rfl
section
variable {ws : Ws} {g : NT → St → Option (Ex' × St)} (hf : GoesOn g) (hd : GoesDp g)
include hf hd
theorem dp_choice {s : St} {y : Ex' × St} (h : choiceG ws g s = some y) : Dp 0 s y := by
 unfold choiceG at h
 split at h
 ·obtain ⟨a, h1, h⟩ := bind_some h
  obtain ⟨b, h2, h⟩ := bind_some h
  obtain ⟨c, h3, rfl⟩ := map_some' h
  intro he
  have d3 := hd _ _ _ h3 he
  obtain ⟨e3, p3, -⟩ := hf _ _ _ h3 he
  obtain ⟨e3', p3', -⟩ := Fwd.must e3
  have d2 := hd _ _ _ h2 e3'
  obtain ⟨e2, p2, -⟩ := hf _ _ _ h2 e3'
  obtain ⟨e2', p2', -⟩ := Fwd.must e2
  have d1 := hd _ _ _ h1 e2'
  obtain ⟨e1, p1, -⟩ := hf _ _ _ h1 e2'
  rw [adv_p] at p1 d1
  simp only [dep_if, depN] at *
  omega
 ·exact hd _ _ _ h
theorem dp_rel {s : St} {y : Ex' × St} (h : relG ws g s = some y) : Dp 0 s y := by
 obtain ⟨a, h1, h⟩ := bind_some h
 have two : ∀ b, g (.lev 2) (adv a.2) = some b → b.2.e = 0 → (depX a.1 : Int) + 2 ≤ 2 * (b.2.p - s.p) ∧ (depX b.1 : Int) + 2 ≤ 2 * (b.2.p - s.p) := fun b h2 he => by
  have d2 := hd _ _ _ h2 he
  obtain ⟨e2, p2, -⟩ := hf _ _ _ h2 he
  have d1 := hd _ _ _ h1 e2
  obtain ⟨e1, p1, -⟩ := hf _ _ _ h1 e2
  rw [adv_p] at p2 d2
  simp only [depN] at *
  omega
 have one : ∀ t : St, Fwd 1 (adv a.2) t → t.e = 0 → (depX a.1 : Int) + 1 ≤ 2 * (t.p - s.p) := fun t ht he => by
  obtain ⟨e2, p2, -⟩ := ht he
  have d1 := hd _ _ _ h1 e2
  rw [adv_p] at p2
  simp only [depN] at *
  omega
 iterate 7 (split at h; (obtain ⟨b, h2, rfl⟩ := map_some' h; intro he; have := two b h2 he; simp only [dep_two, dep_one]; omega))
 split at h
 ·simp only [Option.some.injEq] at h; subst h
  intro he
  have := one _ Fwd.take he
  simp only [dep_one]; omega
 split at h
 ·simp only [Option.some.injEq] at h; subst h
  intro he
  have := one _ Fwd.path he
  simp only [dep_one]; omega
 simp only [Option.some.injEq] at h; subst h; exact hd _ _ _ h1
theorem dp_pref {s : St} {y : Ex' × St} (h : prefG ws g s = some y) : Dp 0 s y := by
 have go : ∀ op b, g .unary (adv s) = some b → Dp 0 s (oneX' op [] b.1, b.2) := fun op b h2 he => by
  have d2 := hd _ _ _ h2 he
  rw [adv_p] at d2
  simp only [dep_one, depN] at *
  omega
 unfold prefG at h
 split at h
 ·obtain ⟨b, h2, rfl⟩ := map_some' h; exact go _ b h2
 ·split at h
  ·obtain ⟨b, h2, rfl⟩ := map_some' h; exact go _ b h2
  ·exact hd _ _ _ h
theorem dp_mems {x : Ex'} {s : St} {y : Ex' × St} (h : memsG ws g x s = some y) : Dp (depX x) s y := by
 unfold memsG at h
 split at h
 ·intro he
  have d1 := hd _ _ _ h he
  obtain ⟨e1, p1, -⟩ := hf _ _ _ h he
  obtain ⟨e2, p2, -⟩ := Fwd.must e1
  obtain ⟨e3, p3, -⟩ := Fwd.take e2
  rw [adv_p] at p3
  simp only [dep_one, depN] at *
  omega
 ·split at h
  ·simp only at h
   split at h
   ·intro he
    have d1 := hd _ _ _ h he
    obtain ⟨e1, p1, -⟩ := hf _ _ _ h he
    obtain ⟨e3, p3, -⟩ := Fwd.take e1
    rw [adv_p] at p3
    simp only [dep_one, depN] at *
    omega
   ·split at h
    ·simp only [Option.some.injEq] at h; subst h; intro he; exact absurd he (failS_e (by decide))
    ·obtain ⟨b, h2, h⟩ := bind_some h
     intro he
     have d1 := hd _ _ _ h he
     obtain ⟨e1, p1, -⟩ := hf _ _ _ h he
     obtain ⟨e2, p2, -⟩ := Fwd.must e1
     have d2 := hd _ _ _ h2 e2
     obtain ⟨e3, p3, -⟩ := hf _ _ _ h2 e2
     rw [adv_p] at p3 d2
     obtain ⟨e4, p4, -⟩ := Fwd.take (ws := ws) (s := adv s) (k := 1) e3
     rw [adv_p] at p4
     simp only [dep_two, depN] at *
     omega
  ·simp only [Option.some.injEq] at h; subst h
   intro he
   show (depX x : Int) ≤ depX x + 2 * (s.p - s.p)
   omega
theorem dp_its {op : Int} {ns : List Str} {ks : List Ex'} {s : St} {y : Ex' × St} (h : itsG ws g op ns ks s = some y) : Dp (depXL ks + 1) s y := by
 unfold itsG at h
 obtain ⟨a, h1, h⟩ := bind_some h
 split at h
 ·simp only [Option.some.injEq] at h; subst h
  intro he
  have d1 := hd _ _ _ h1 he
  obtain ⟨e1, p1, -⟩ := hf _ _ _ h1 he
  obtain ⟨e2, p2, -⟩ := Fwd.head e1
  simp only [dep_its, depN, adv_p] at *
  omega
 ·intro he
  have d0 := hd _ _ _ h he
  obtain ⟨e0, p0, -⟩ := hf _ _ _ h he
  obtain ⟨e3, p3, -⟩ := Fwd.must e0
  have d1 := hd _ _ _ h1 e3
  obtain ⟨e1, p1, -⟩ := hf _ _ _ h1 e3
  obtain ⟨e2, p2, -⟩ := Fwd.head e1
  simp only [depN, depXL_app, depXL, Nat.max_zero] at *
  omega
theorem dp_items {op : Int} {s : St} {y : Ex' × St} (h : itemsG ws g op s = some y) : Dp 1 s y := by
 unfold itemsG at h
 split at h
 ·simp only [Option.some.injEq] at h; subst h
  intro he
  simp only [dep_leaf, adv_p]
  omega
 ·have := hd _ _ _ h
  simpa [depN, depXL] using this
theorem dp_prim {s : St} {y : Ex' × St} (h : primG ws g s = some y) : Dp 0 s y := by
 have lf : ∀ (x : Ex'), depX x = 1 → ∀ t, Fwd 1 s t → Dp 0 s (x, t) := fun x hx t ht he => by
  obtain ⟨-, p1, -⟩ := ht he
  simp only [hx] at *
  omega
 have bad : Dp 0 s (nilX, failS ws s 10) := fun he => absurd he (failS_e (by decide))
 unfold primG at h
 split at h
 ·simp only [Option.some.injEq] at h; subst h; exact lf _ (dep_lit _) _ Fwd.adv
 split at h
 ·simp only [Option.some.injEq] at h; subst h; exact lf _ (dep_lit _) _ Fwd.adv
 split at h
 ·split at h
  ·simp only [Option.some.injEq] at h; subst h; exact lf _ (dep_leaf _ _ _ _) _ Fwd.adv
  ·simp only [Option.some.injEq] at h; subst h; exact bad
 split at h
 ·simp only [Option.some.injEq] at h; subst h
  unfold nameG
  split
  ·exact lf _ (dep_lit _) _ Fwd.adv
  ·split
   ·exact lf _ (dep_lit _) _ Fwd.uid
   ·split
    ·exact lf _ (dep_leaf _ _ _ _) _ Fwd.adv
    ·exact bad
 split at h
 ·obtain ⟨b, h2, rfl⟩ := map_some' h
  intro he
  obtain ⟨e1, p1, -⟩ := Fwd.must he
  have d := hd _ _ _ h2 e1
  rw [adv_p] at d
  simp only [depN] at *
  omega
 split at h
 ·intro he
  have d := dp_items hf hd h he
  rw [adv_p] at d
  omega
 split at h
 ·intro he
  have d := dp_items hf hd h he
  rw [adv_p] at d
  omega
 ·simp only [Option.some.injEq] at h; subst h; exact bad
theorem dp_step {nt : NT} {s : St} {y : Ex' × St} (h : stepG ws g nt s = some y) : Dp (depN nt) s y := by
 cases nt with
 | expr =>
  simp only [stepG] at h
  split at h
  ·simp only [Option.some.injEq] at h; subst h; intro he; exact absurd he (failS_e (by decide))
  ·obtain ⟨b, h2, rfl⟩ := map_some' h; exact fun he => (dp_choice hf hd h2 : Dp 0 (inn s) b) he
 | lev k =>
  obtain ⟨a, h1, h⟩ := bind_some h
  intro he
  have d2 := hd _ _ _ h he
  obtain ⟨e2, p2, -⟩ := hf _ _ _ h he
  have d1 := hd _ _ _ h1 e2
  have e0 : depN (lowN k) = 0 := by unfold lowN; split <;> rfl
  simp only [depN, e0] at *
  omega
 | rows k x =>
  simp only [stepG] at h
  split at h
  ·simp only [Option.some.injEq] at h; subst h
   intro he
   show (depX x : Int) ≤ depX x + 2 * (s.p - s.p)
   omega
  ·obtain ⟨a, h1, h⟩ := bind_some h
   intro he
   have d2 := hd _ _ _ h he
   obtain ⟨e2, p2, -⟩ := hf _ _ _ h he
   have d1 := hd _ _ _ h1 e2
   obtain ⟨e1, p1, -⟩ := hf _ _ _ h1 e2
   have e0 : depN (lowN k) = 0 := by unfold lowN; split <;> rfl
   rw [adv_p] at p1 d1
   simp only [depN, e0, dep_two] at *
   omega
 | rel => exact dp_rel hf hd h
 | unary =>
  simp only [stepG] at h
  split at h
  ·simp only [Option.some.injEq] at h; subst h; intro he; exact absurd he (failS_e (by decide))
  ·obtain ⟨b, h2, rfl⟩ := map_some' h; exact fun he => (dp_pref hf hd h2 : Dp 0 (inn s) b) he
 | member =>
  obtain ⟨a, h1, h⟩ := bind_some h
  intro he
  have d2 := hd _ _ _ h he
  obtain ⟨e2, p2, -⟩ := hf _ _ _ h he
  have d1 := hd _ _ _ h1 e2
  simp only [depN] at *
  omega
 | mems x => exact dp_mems hf hd h
 | prim => exact dp_prim hf hd h
 | its op ns ks => exact dp_its hf hd h
end
theorem G_dp (ws : Ws) : ∀ n, GoesDp (G ws n)
 | 0 => fun _ _ _ h => by obtain ⟨h0, rfl⟩ := G_zero h; exact fun he => absurd he h0
 | n + 1 => fun nt s y h => by
  rw [G_succ] at h
  split at h
  ·exact dp_step (G_goes ws n) (G_dp ws n) h
  ·rename_i h0
   simp only [Option.some.injEq] at h; subst h; exact fun he => absurd he h0
end Go.Proofs.YtnenbihkcjgddaaGreatDoor
namespace Go.Proofs.YtnenbihkcjgddaaGreatDoor
open Go Go.Eng
set_option maxHeartbeats 1000000
set_option linter.unusedSimpArgs false
set_option linter.unusedVariables false
set_option maxRecDepth 20000
theorem take_snoc {α : Type} {l : List α} {i : Nat} {x : α} (h : l[i]? = some x) : l.take (i + 1) = l.take i ++ [x] := by
 rw [List.take_add_one, h]; rfl
theorem getX {l : List Ex'} {i : Nat} (h : i < l.length) : l[i]? = some (l.getD i nilX) := getDs nilX h
theorem depXL_snoc {l : List Ex'} {i : Nat} {x : Ex'} (h : l[i]? = some x) : depXL (l.take (i + 1)) = max (depXL (l.take i)) (depX x) := by
 rw [take_snoc h, depXL_app]; simp [depXL]
theorem depXL_mem {l : List Ex'} {i : Nat} {x : Ex'} (h : l[i]? = some x) : depX x ≤ depXL l := by
 have e : depXL l = max (depXL (l.take (i + 1))) (depXL (l.drop (i + 1))) := by rw [← depXL_app, List.take_append_drop]
 rw [e, depXL_snoc h]; omega
theorem depXL_take {l : List Ex'} (i : Nat) : depXL (l.take i) ≤ depXL l := by
 have e : depXL l = max (depXL (l.take i)) (depXL (l.drop i)) := by rw [← depXL_app, List.take_append_drop]
 omega
theorem rdep_pure (F : Base) {cs : List Value} {e : Ex'} (h : RepX F cs e) : depX e ≤ 1000000000 → PureV Tryz.prog F 22 #[.agg cs.toArray] (.int .i64 (depX e)) := by
 induction h with
 | mk op v u1 u2 nm a1 c1 kids g1 vn names hu hop hk hn hl1 hc1 h1 r1 hN i1 =>
  intro hw
  obtain ⟨an, cn, rfl, hcn, -⟩ := hN
  rw [depX] at hw
  refine pureV_of_svc mixed Tryz.func22 low22 (Nat.le_of_ble_eq_true rfl) (fun w0 => ?_)
  unfold xcells
  simp (disch := first | assumption | exact Ne.symm (by assumption) | omega) only [fu22, ↓ZD, ZW, simprocAttr]
  refine NewB.of fun b1 hb1 hF1 => ?_
  rw [depX]
  simp (disch := first | assumption | exact Ne.symm (by assumption) | omega) only [hF1, ↓ZD, ZW, simprocAttr]
  refine LoopL.inv (α := Nat) (fun i => i ≤ kids.length)
   (fun i => [(1, some (.pointer (some ⟨b1, 0, none⟩))), (3, some (.int .i64 (depXL (kids.take i)))), (4, some (.int .i64 i))])
   (fun i => [(b1, .cells (xcells op v u1 u2 nm (.slice a1 kids.length c1) (.slice an names.length cn)).toArray 39 (0, 0))])
   (fun i => kids.length - i) 0 (Nat.zero_le _) ?_ ?_ ?_
  ·simp only [Le_nil, Le_cons, List.take_zero, depXL]
   simp (disch := first | assumption | exact Ne.symm (by assumption) | omega) only [↓ZD, ZW, simprocAttr]
  ·simp only [HLe_nil, HLe_cons, xcells]
   simp (disch := first | assumption | exact Ne.symm (by assumption) | omega) only [↓ZD, ZW, simprocAttr]
  ·rintro i hi
   have hdt := depXL_take (l := kids) i
   by_cases hlt : i < kids.length
   ·have hd : decide ((i : Int) < (kids.length : Int)) = true := by simp; omega
    have gx := getX hlt
    have hm2 := depXL_mem gx
    have hc := i1 i _ gx (by omega)
    obtain ⟨q1, q2, q3, q4, q5, q6, q7, q8, q9, q10, q11, q12, q13, q14, q15, q16, q17, q18, q19, q20, e1⟩ := (r1 i _ gx).form
    obtain ⟨ba, oa, rfl, hla⟩ := (h1 i _ gx).ldn
    rw [e1] at hc hla
    have hs := depXL_snoc gx
    unfold xcells
    simp (disch := first | assumption | exact Ne.symm (by assumption) | omega) only [hF1, hd, ↓ZD, ZW, simprocAttr]
    refine conj.of (by omega) ?_
    simp (disch := first | assumption | exact Ne.symm (by assumption) | omega) only [hF1, hd, Int.toNat_natCast, ↓hla, ↓ZD, ZW, simprocAttr]
    refine CallE.pure hc ?_
    simp (disch := first | assumption | exact Ne.symm (by assumption) | omega) only [hF1, hd, ↓ZD, ZW, simprocAttr]
    refine ⟨fun hb => ?_, fun hb => ?_⟩
    all_goals
     refine invK.on (i + 1) (by omega) (by omega) ?_ ?_
     ·simp only [decide_eq_true_eq, decide_eq_false_iff_not] at hb
      simp only [Le_nil, Le_cons, hs]
      simp (disch := first | assumption | exact Ne.symm (by assumption) | omega) only [↓ZD, ZW, simprocAttr]
      first | (rw [Nat.max_eq_right (by omega)]; exact ⟨rfl, rfl⟩) | (rw [Nat.max_eq_left (by omega)]; exact ⟨rfl, rfl⟩)
     ·simp only [HLe_nil, HLe_cons, xcells]
      simp (disch := first | assumption | exact Ne.symm (by assumption) | omega) only [↓ZD, ZW, simprocAttr]
   ·have hd : decide ((kids.length : Int) < (kids.length : Int)) = false := by simp
    obtain rfl : i = kids.length := by omega
    rw [List.take_length]
    unfold xcells
    simp (disch := first | assumption | exact Ne.symm (by assumption) | omega) only [hF1, hd, ↓ZD, ZW, simprocAttr]
    rfl
theorem dep_pure (F : Base) {cs : List Value} {e : Ex'} (h : RepX F cs e) : depX e ≤ 1000000000 → PureV Tryz.prog F 59 #[.agg cs.toArray] (.int .i64 (depX e)) := by
 induction h with
 | mk op v u1 u2 nm a1 c1 kids g1 vn names hu hop hk hn hl1 hc1 h1 r1 hN i1 =>
  intro hw
  obtain ⟨an, cn, rfl, hcn, -⟩ := hN
  rw [depX] at hw
  refine pureV_of_svc mixed Tryz.func59 low59 (Nat.le_of_ble_eq_true rfl) (fun w0 => ?_)
  unfold xcells
  simp (disch := first | assumption | exact Ne.symm (by assumption) | omega) only [fu59, ↓ZD, ZW, simprocAttr]
  refine NewB.of fun b1 hb1 hF1 => ?_
  rw [depX]
  simp (disch := first | assumption | exact Ne.symm (by assumption) | omega) only [hF1, ↓ZD, ZW, simprocAttr]
  refine LoopL.inv (α := Nat) (fun i => i ≤ kids.length)
   (fun i => [(1, some (.pointer (some ⟨b1, 0, none⟩))), (3, some (.int .i64 (depXL (kids.take i)))), (7, some (.slice a1 kids.length c1)), (8, some (.int .i64 kids.length)), (9, some (.int .i64 i))])
   (fun i => []) (fun i => kids.length - i) 0 (Nat.zero_le _) ?_ ?_ ?_
  ·simp only [Le_nil, Le_cons, List.take_zero, depXL]
   simp (disch := first | assumption | exact Ne.symm (by assumption) | omega) only [↓ZD, ZW, simprocAttr]
   first | done | rfl
  ·trivial
  ·rintro i hi
   have hdt := depXL_take (l := kids) i
   by_cases hlt : i < kids.length
   ·have hd : decide ((i : Int) < (kids.length : Int)) = true := by simp; omega
    have gx := getX hlt
    have hm2 := depXL_mem gx
    have hc := i1 i _ gx (by omega)
    obtain ⟨q1, q2, q3, q4, q5, q6, q7, q8, q9, q10, q11, q12, q13, q14, q15, q16, q17, q18, q19, q20, e1⟩ := (r1 i _ gx).form
    obtain ⟨ba, oa, rfl, hla⟩ := (h1 i _ gx).ldn
    rw [e1] at hc hla
    have hs := depXL_snoc gx
    simp (disch := first | assumption | exact Ne.symm (by assumption) | omega) only [hF1, hd, ↓ZD, ZW, simprocAttr]
    refine conj.of (by omega) ?_
    simp (disch := first | assumption | exact Ne.symm (by assumption) | omega) only [hF1, hd, Int.toNat_natCast, ↓hla, ↓ZD, ZW, simprocAttr]
    refine NewB.of fun b2 hb2 hF2 => ?_
    simp (disch := first | assumption | exact Ne.symm (by assumption) | omega) only [hF2, ↓ZD, ZW, simprocAttr]
    refine CallE.pure hc ?_
    simp (disch := first | assumption | exact Ne.symm (by assumption) | omega) only [hF2, ↓ZD, ZW, simprocAttr]
    refine invK.on (i + 1) (by omega) (by omega) ?_ trivial
    simp only [Le_nil, Le_cons, hs]
    simp (disch := first | assumption | exact Ne.symm (by assumption) | omega) only [↓ZD, ZW, simprocAttr]
    refine ⟨?_, rfl⟩
    congr 2
    split <;> omega
   ·have hd : decide ((kids.length : Int) < (kids.length : Int)) = false := by simp
    obtain rfl : i = kids.length := by omega
    rw [List.take_length]
    simp (disch := first | assumption | exact Ne.symm (by assumption) | omega) only [hF1, hd, ↓ZD, ZW, simprocAttr]
    rfl
end Go.Proofs.YtnenbihkcjgddaaGreatDoor
