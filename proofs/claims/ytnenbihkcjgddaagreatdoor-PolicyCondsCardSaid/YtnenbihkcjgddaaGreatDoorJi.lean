/- Joined. -/
import Derived.Test.YtnenbihkcjgddaaGreatDoorJh
import Derived.Test.YtnenbihkcjgddaaGreatDoorJf
import Derived.Handed
import Derived.HandedShaped
import Derived.ChangeArms
set_option linter.unusedSectionVars false
namespace Go.Proofs.YtnenbihkcjgddaaGreatDoor
open Go Go.Eng
set_option maxHeartbeats 1000000
set_option linter.unusedSimpArgs false
set_option linter.unusedVariables false
set_option maxRecDepth 20000
def SlT (F : Base) (v : Value) (l : List Bool) : Prop := ∃ a c, v = .slice a l.length c ∧ l.length ≤ 9223372036854775807 ∧ ∀ (i : Nat) (x : Bool), l[i]? = some x → Cl F a 1 i [.bool x]
def CsOk (l : List (Bool × Str)) : Prop := ∀ c ∈ l, CndOk c.2
theorem CsOk.snoc {l : List (Bool × Str)} {c : Bool × Str} (h : CsOk l) (hc : CndOk c.2) : CsOk (l ++ [c]) := fun d hd => by
 rcases List.mem_append.1 hd with hd | hd
 ·exact h d hd
 ·rw [List.mem_singleton.1 hd]; exact hc
theorem conds_tl {l : List (Bool × Str)} (h : CsOk l) : (l.flatMap condT).length ≤ 212 * l.length := by
 induction l with
 | nil => simp
 | cons c l ih =>
  have := condT_len c
  have := (h c List.mem_cons_self).2.2.2
  have := ih fun u hu => h u (List.mem_cons_of_mem _ hu)
  rw [List.flatMap_cons, List.length_append, List.length_cons]; omega
structure ZsOk (ks : List Bool) (ts : List Str) (zs : List (Bool × Str)) : Prop where
 a : zs.length ≤ ks.length
 b : zs.length ≤ ts.length
 c : CsOk zs
 d : ∀ (j : Nat) (c : Bool × Str), zs[j]? = some c → ks[j]? = some c.1 ∧ ts[j]? = some c.2
theorem ZsOk.snoc {ks : List Bool} {ts : List Str} {zs : List (Bool × Str)} (h : ZsOk ks ts zs) {k : Bool} {t : Str} (hk : ks[zs.length]? = some k) (ht : ts[zs.length]? = some t) (ho : CndOk t) : ZsOk ks ts (zs ++ [(k, t)]) := by
 have h1 := (List.getElem?_eq_some_iff.1 hk).1
 have h2 := (List.getElem?_eq_some_iff.1 ht).1
 refine ⟨by simp; omega, by simp; omega, h.c.snoc ho, fun j c hj => ?_⟩
 by_cases hlt : j < zs.length
 ·rw [List.getElem?_append_left hlt] at hj; exact h.d j c hj
 ·have hlt2 := (List.getElem?_eq_some_iff.1 hj).1
  rw [List.length_append, List.length_singleton] at hlt2
  obtain rfl : j = zs.length := by omega
  rw [List.getElem?_append_right (Nat.le_refl _), Nat.sub_self] at hj
  simp only [List.getElem?_cons_zero, Option.some.injEq] at hj
  subst hj; exact ⟨hk, ht⟩
theorem condT_snoc (zs : List (Bool × Str)) (k : Bool) (t : Str) : forbH ++ (zs ++ [(k, t)]).flatMap condT = forbH ++ zs.flatMap condT ++ condT (k, t) := by
 rw [List.flatMap_append, List.flatMap_cons, List.flatMap_nil, List.append_nil, List.append_assoc]
theorem pol_atG {F : Base} {G : Hp} {a : Option Addr} {i : Nat} {x : Pol} {va vc : Value} (h : Cl (rdObj F G) a 21 i (polC x v0 va v0 vc)) : ∃ b off, a = some ⟨b, off, none⟩ ∧ ldV F G 21 true (.pointer (some ⟨b, off + i * 21, none⟩)) = some (True, .agg (polC x v0 va v0 vc).toArray) ∧
  ∀ o, o + 1 ≤ 21 → ldV F G 1 false (.pointer (some ⟨b, off + i * 21 + o, none⟩)) = some (True, (polC x v0 va v0 vc).getD o undef) := by
 obtain ⟨b, off, rfl, l1, l2⟩ := h.all
 refine ⟨b, off, rfl, ?_, fun o ho => ?_⟩
 ·rw [← ldV_flat]; exact l1 0 21 (by decide) []
 ·rw [← ldV_flat]; exact l2 o ho []
theorem cond_atG {F : Base} {G : Hp} {a : Option Addr} {i : Nat} {w : Bool} {cs : List Value} (h : Cl (rdObj F G) a 13 i (.bool w :: cs)) : ∃ b off, a = some ⟨b, off, none⟩ ∧
  ldV F G 1 false (.pointer (some ⟨b, off + i * 13, none⟩)) = some (True, .bool w) ∧ ldV F G 12 true (.pointer (some ⟨b, off + i * 13 + 1, none⟩)) = some (True, .agg cs.toArray) := by
 obtain ⟨b, off, rfl, l1, l2⟩ := cond_at h
 exact ⟨b, off, rfl, by rw [← ldV_flat]; exact l1 [], by rw [← ldV_flat]; exact l2 []⟩
set_option maxHeartbeats 4000000 in
theorem conds_law (F : Base) (hg : HasMarks F) (hMx : HasMx F) (u v : Value) (ks : List Bool) (ts : List Str) (hk : SlT F u ks) (ht : SlS F v ts) : PureV Tryz.prog F 5 #[u, v] (.bool true) := by
 obtain ⟨ak, ck, rfl, hkl, hk⟩ := hk
 obtain ⟨at_, ct, rfl, -, htl, ht, hts⟩ := ht
 refine pureV_of_svc (args := [.slice ak ks.length ck, .slice at_ ts.length ct]) mixed Tryz.func5 low5 (Nat.le_of_ble_eq_true rfl) (fun w0 => ?_)
 simp only [*, fu5, ↓ZD, ZW, RO, simprocAttr]
 refine CallE.pure (awake_pure F hg hMx) ?_
 simp only [*, ↓ZD, ZW, RO, simprocAttr]
 intro h8
 have h8 : ks.length ≤ 8 ∧ ts.length ≤ 8 := by simp at h8; omega
 refine LoopL.inv (ZsOk ks ts) (fun zs => [(0, some (.slice ak ks.length ck)), (1, some (.slice at_ ts.length ct)), (6, some (.string (bs (forbH ++ zs.flatMap condT)))), (7, some (.int .i64 zs.length)), (8, some (.int .i64 zs.length))])
  (fun zs => []) (fun zs => ks.length - zs.length) [] ⟨Nat.zero_le _, Nat.zero_le _, fun c h => (by cases h), fun j c h => (by cases h)⟩ (by simp only [*, ↓ZD, ZW, RO, simprocAttr]; try rfl) (by simp only [*, ↓ZD, ZW, RO, simprocAttr]) ?_
 rintro zs hz
 obtain ⟨z1, z2, z3, z4⟩ := id hz
 have hlz := conds_tl z3
 have hH : forbH.length = 35 := rfl
 by_cases hlt : zs.length < ks.length ∧ zs.length < ts.length
 ·obtain ⟨lk, lt⟩ := hlt
  have hdk : decide ((zs.length : Int) < (ks.length : Int)) = true := by simp; omega
  have hdt : decide ((zs.length : Int) < (ts.length : Int)) = true := by simp; omega
  have gk : ks[zs.length]? = some ks[zs.length] := List.getElem?_eq_getElem lk
  have gt : ts[zs.length]? = some ts[zs.length] := List.getElem?_eq_getElem lt
  have hsn := fun ho => hz.snoc gk gt ho
  generalize ks[zs.length] = k at *
  generalize ts[zs.length] = t at *
  have htt := hts _ _ gt
  obtain ⟨bk, ok, rfl, hlk⟩ := (hk _ _ gk).ld1
  obtain ⟨bt, ot, rfl, hlt⟩ := (ht _ _ gt).ld1
  simp only [*, ↓ZD, ZW, RO, simprocAttr]
  repeat' (refine conj.of (by omega) ?_; simp only [*, Int.toNat_natCast, ↓hlk, ↓hlt, ↓ZD, ZW, RO, simprocAttr])
  intro h200
  have h200 : t.length ≤ 200 := by simp at h200; omega
  refine conj.of (by omega) ?_
  simp only [*, Int.toNat_natCast, ↓hlt, ↓ZD, ZW, RO, simprocAttr]
  refine CallE.mk0 (rparse_does F t htt) ?_
  unfold CndOk at hsn
  generalize parseS t = R at *
  rintro _ H1 ⟨cs, rfl, ⟨o1, o2, o3, o4⟩, hr⟩ -
  simp only [*, ↓ZD, ZW, RO, simprocAttr]
  refine NewB.n ?_
  rintro b9 h9 hF9
  simp only [*, ↓ZD, ZW, RO, simprocAttr]
  have hr := hr.mono fun b o h => rdObj_r (G := [(b9, .cells cs.toArray 39 (0, 0))]) (fun e he e' he' => by rw [List.mem_singleton.1 he]; exact h9.all e' he') h
  refine CallE.pureH (slotted_pure _ prN hr.toX) ?_
  simp only [*, ↓ZD, ZW, RO, simprocAttr]
  refine CallE.pureH (slotted_pure _ reN hr.toX) ?_
  simp only [*, ↓ZD, ZW, RO, simprocAttr]
  intro hok
  have hok : R.2.1 = 0 ∧ hasSl R.1 prN = false ∧ hasSl R.1 reN = false := by simpa [and_assoc] using hok
  have hsn := hsn ⟨hok.1, hok.2.1, hok.2.2, h200⟩
  refine conj.of (by omega) ?_
  simp only [*, Int.toNat_natCast, ↓hlk, ↓ZD, ZW, RO, simprocAttr]
  have hs := condT_snoc zs k t
  have e1 : (zs ++ [(k, t)]).length = zs.length + 1 := by simp
  clear hok hr
  cases k
  all_goals
   simp only [*, ↓ZD, ZW, RO, simprocAttr]
   refine conj.of (by omega) ?_
   simp only [*, Int.toNat_natCast, ↓hlt, ↓ZD, ZW, RO, simprocAttr]
   repeat' (refine conj.of (by omega) ?_; simp only [*, ↓ZD, ZW, RO, simprocAttr])
   simp (disch := first | assumption | exact Ne.symm (by assumption) | omega) only [*, ↓ZD, ZW, RO, simprocAttr]
   refine invK.on _ hsn (by rw [e1]; omega) (by rw [hs]; simp only [*, ↓ZD, ZW, RO, simprocAttr]; exact ⟨rfl, rfl, rfl⟩) (by simp only [*, ↓ZD, ZW, RO, simprocAttr])
 ·have hdn : (decide ((zs.length : Int) < (ks.length : Int)) && decide ((zs.length : Int) < (ts.length : Int))) = false := by simp; omega
  simp only [*, ↓ZD, ZW, RO, simprocAttr]
  refine conj.of (by omega) ?_
  simp only [*, ↓ZD, ZW, RO, simprocAttr]
  refine CallE.mk0 (pparse_does F hg hMx (forbH ++ zs.flatMap condT ++ [59]) (by rw [List.length_append, List.length_append, List.length_singleton]; omega)) ?_
  rw [conds_pols zs z3 (by omega)]
  rintro _ G ⟨v, rfl, ⟨gs, ⟨a1, c1, rfl, hc1, hm1, k1⟩, r1⟩, wG⟩ -
  have el : gs.length = 1 := r1.len
  rw [el] at hc1 ⊢
  obtain ⟨g1, hg1, va, vc, rfl, u1, s1⟩ := r1.at (i := 0) (b := forbP zs) rfl
  obtain ⟨gc, ⟨ac, cc, rfl, hcc, hcm, kc⟩, rc⟩ := s1
  have ec : gc.length = zs.length := rc.len.trans (by show (zs.map condX).length = _; rw [List.length_map])
  obtain ⟨ba, oa, rfl, A, A1⟩ := pol_atG (k1 0 _ hg1)
  have B1 := A1 1 (by decide)
  have B20 := A1 20 (by decide)
  simp only [polC, List.cons_append, List.nil_append, List.getD_cons_zero, List.getD_cons_succ] at B1 B20
  rw [ec] at B20 hcc
  have hpm : (forbP zs).permit = false := rfl
  simp only [*, Int.toNat_natCast, bne_self_eq_false, Bool.or_self, ↓ZD, ZW, RO, simprocAttr]
  refine LoopL.inv (α := Nat) (fun j => j ≤ zs.length) (fun j => [(0, some (.slice ak ks.length ck)), (1, some (.slice at_ ts.length ct)), (7, some (.int .i64 zs.length)), (14, some (.slice (some ⟨ba, oa, none⟩) 1 c1)), (17, some (.int .i64 j))])
   (fun j => G) (fun j => zs.length - j) 0 (Nat.zero_le _) (by simp only [*, ↓ZD, ZW, RO, simprocAttr]) (by simp only [*, ↓ZD, ZW, RO, simprocAttr]) ?_
  intro j hj
  by_cases hlj : j < zs.length
  ·have hdj : decide ((j : Int) < (zs.length : Int)) = true := by simp; omega
   have hzj : zs[j]? = some zs[j] := List.getElem?_eq_getElem hlj
   obtain ⟨gk, gt⟩ := z4 j _ hzj
   have htt := hts _ _ gt
   have hy : (forbP zs).conds[j]? = some (condX zs[j]) := by show (zs.map condX)[j]? = _; rw [List.getElem?_map, hzj]; rfl
   generalize zs[j] = c at *
   obtain ⟨k, t⟩ := c
   obtain ⟨bk, ok, rfl, hlk⟩ := (hk _ _ gk).ld1
   obtain ⟨bt, ot, rfl, hlt⟩ := (ht _ _ gt).ld1
   obtain ⟨y1, hy1, cs1, rfl, ry1⟩ := rc.at hy
   have kc := kc j _ hy1
   simp only [*, ↓ZD, ZW, RO, simprocAttr]
   refine conj.of (by omega) ?_
   simp only [*, Int.toNat_natCast, ↓hlt, ↓ZD, ZW, RO, simprocAttr]
   refine CallE.mk0 (rparse_does F t htt) ?_
   unfold condX at ry1 kc
   dsimp only at ry1 kc
   generalize parseS t = R at *
   rintro _ H1 ⟨cs, rfl, ⟨o1, o2, o3, o4⟩, hr⟩ dj
   have up1 : ∀ b o, rdObj F G b = some o → rdObj F (G ++ H1) b = some o := fun b o h => rdObj_app1 (Hx := H1) h
   replace hr := hr.mono fun b o h => rdObj_r (Dj.iff.1 dj) h
   have hle : HLe G (G ++ H1) := of_eq_true (HLe_apl wG)
   have hnb : ∀ b, Nb b (G ++ H1) → Nb b G := fun b h => by rw [Nb_app] at h; exact h.1
   generalize G ++ H1 = G1 at *
   clear dj
   simp only [*, ↓ZD, ZW, RO, simprocAttr]
   refine NewB.n ?_
   rintro b18 h18 hF18
   have up2 : ∀ b o, rdObj F G1 b = some o → rdObj F ((b18, .cells cs.toArray 39 (0, 0)) :: G1) b = some o := fun b o h => rdObj_r (G := [(b18, .cells cs.toArray 39 (0, 0))]) (fun e he e' he' => by rw [List.mem_singleton.1 he]; exact h18.all e' he') h
   replace ry1 := (ry1.mono up1).mono up2
   replace hr := hr.mono up2
   obtain ⟨_, _, e, -, A1⟩ := pol_atG (((k1 0 _ hg1).mono up1).mono up2)
   cases e
   have B20 := A1 20 (by decide)
   simp only [polC, List.cons_append, List.nil_append, List.getD_cons_zero, List.getD_cons_succ] at B20
   rw [ec] at B20
   obtain ⟨bc, oc, rfl, C1, C2⟩ := cond_atG ((kc.mono up1).mono up2)
   clear up2 A1
   simp only [*, Int.toNat_natCast, ↓hlt, ↓B20, ↓C1, ↓C2, ↓ZD, ZW, RO, simprocAttr]
   repeat' (refine conj.of (by omega) ?_; simp only [*, Int.toNat_natCast, ↓hlt, ↓hlk, ↓B20, ↓C1, ↓C2, ↓ZD, ZW, RO, simprocAttr])
   refine CallQ.of _ (same_pure _ hr ry1) ?_
   simp only [*, Int.toNat_natCast, ↓hlt, ↓hlk, ↓B20, ↓C1, ↓C2, beq_self_eq_true, eq_self, bne_self_eq_false, ↓ZD, ZW, RO, simprocAttr]
   repeat' (refine conj.of (by omega) ?_; simp only [*, Int.toNat_natCast, ↓hlt, ↓hlk, ↓B20, ↓C1, ↓C2, beq_self_eq_true, eq_self, bne_self_eq_false, ↓ZD, ZW, RO, simprocAttr])
   simp (disch := first | assumption | exact Ne.symm (by assumption) | omega) only [*, ↓ZD, ZW, RO, simprocAttr]
   refine invK.on (j + 1) (by omega) (by omega) (by simp only [*, ↓ZD, ZW, RO, simprocAttr]; rfl) (by rw [HLe_skip (hnb _ h18)]; exact hle)
  ·have hdj : decide ((j : Int) < (zs.length : Int)) = false := by simp; omega
   simp only [*, ↓ZD, ZW, RO, simprocAttr]
end Go.Proofs.YtnenbihkcjgddaaGreatDoor
namespace Go.Proofs.YtnenbihkcjgddaaGreatDoor
open Go Go.Eng
set_option maxHeartbeats 1000000
set_option linter.unusedSimpArgs false
set_option linter.unusedVariables false
set_option maxRecDepth 20000
theorem cB : Tryz.prog.cellsOf 4 = 1 := by kernel_rfl
theorem cS : Tryz.prog.cellsOf 9 = 1 := by kernel_rfl
theorem maxLen_eq : maxLen = 9223372036854775807 := by decide
section
variable {H : Type} {enc : TypeId × Value → H} {w : World} {spare : Nat → Bool} {held : Bool}
theorem open_texts (fuel : Nat) (cs : List Value) (x : DataW H × List MemPlace) (h : DataW.trod enc Tryz.prog w 0 spare held fuel 31 cs = some x) : ∃ v l, cs = [v] ∧ SlS (fun b => w.heap[b]?) v l := by
 obtain ⟨a, l, c, g, e, hl, hc, _, h1, h2⟩ := open_slice (R := fun cs (s : Str) => cs = [.string (bs s)] ∧ s.length ≤ 9223372036854775807) Tryz.underlying31 cS (by omega) h (fun m cs' y hm hy => by
  obtain ⟨s, e0, e1, hs⟩ := DataW.trod_string Tryz.underlying9 hy
  rw [maxLen_eq] at hs
  exact ⟨s.data.toList, e0, hs⟩)
 rw [maxLen_eq] at hl
 exact ⟨_, l, e, ⟨a, c, rfl, hc, hl, fun i s hs => by rw [← (h2 i s hs).1]; exact h1 i s hs, fun i s hs => (h2 i s hs).2⟩⟩
theorem open_bools (fuel : Nat) (cs : List Value) (x : DataW H × List MemPlace) (h : DataW.trod enc Tryz.prog w 0 spare held fuel 30 cs = some x) : ∃ v l, cs = [v] ∧ SlT (fun b => w.heap[b]?) v l := by
 obtain ⟨a, l, c, g, e, hl, hc, _, h1, h2⟩ := open_slice (R := fun cs (s : Bool) => cs = [.bool s]) Tryz.underlying30 cB (by omega) h (fun m cs' y hm hy => by
  obtain ⟨s, e0, _⟩ := DataW.trod_bool Tryz.underlying4 hy
  exact ⟨s, e0⟩)
 rw [maxLen_eq] at hl
 exact ⟨_, l, e, ⟨a, c, rfl, hl, fun i s hs => by rw [← h2 i s hs]; exact h1 i s hs⟩⟩
end
end Go.Proofs.YtnenbihkcjgddaaGreatDoor
