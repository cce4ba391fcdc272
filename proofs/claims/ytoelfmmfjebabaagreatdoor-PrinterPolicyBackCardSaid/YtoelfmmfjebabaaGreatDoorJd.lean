/- Joined. -/
import Derived.Test.YtoelfmmfjebabaaGreatDoorJc
import Derived.Test.YtoelfmmfjebabaaGreatDoorJb
set_option linter.unusedSectionVars false
namespace Go.Proofs.YtoelfmmfjebabaaGreatDoor
open Go Go.Eng
set_option maxHeartbeats 1000000
set_option linter.unusedSimpArgs false
set_option linter.unusedVariables false
set_option maxRecDepth 20000
theorem one1_call:callable Tryz.prog 131=true:=by kernel_rfl
theorem one2_call:callable Tryz.prog 132=true:=by kernel_rfl
theorem take_two {ws:Ws} {p s:St} (h:Agr p s) {k:Int} (hk:k=if wk ws p=3 then 3 else 1):(takeS ws p k).1=(takeS ws s (if wk ws s=3 then 3 else 1)).1∧Agr (takeS ws p k).2 (takeS ws s (if wk ws s=3 then 3 else 1)).2:=by
 by_cases he:s.e=0
 ·obtain rfl:=h.ok he
  rw [hk];exact ⟨rfl,.inl rfl⟩
 ·rw [takeS_err he,takeS_err (by rw [h.e];exact he)];exact ⟨rfl,h⟩
theorem one1 (F:Base) {ws:Ws} {l:Value} (hW:HasW F ws l) {b bo b1 T1:Nat} {fz:Nat×Nat} (hbo:b≠bo) (hFb:F b=none) (hFo:F bo=none) (h1:F b1=some (.cells #[.pointer (some ⟨b,0,none⟩)] T1 fz)) (n:Nat) (hx:Prs F l 25 (G ws n .expr)) :
  OneC F ws l b bo 19 (.func (.func 131) #[] #[.pointer (some ⟨bo,0,none⟩),.pointer (some ⟨b1,0,none⟩)]) n:=by
 refine ⟨_,_,rfl,one1_call,fun y x s2 hy hcl hns hR=>?_⟩
 obtain ⟨p,s,ks,ns,css,vk,vn,Hk,Hn,G0⟩:=y
 obtain ⟨hA,hg,hk,h12,hn,hnl,hr,ok,on,og,kn,kg,ng,hw,hle⟩:=hy
 dsimp only at hA hg hk h12 hn hnl hr ok on og kn kg ng hw hle hcl hns hR ⊢
 rw [show headS ws 19 ns s=(ns,s) from if_neg (by decide)] at hR ⊢
 simp only at hR ⊢
 have hg2:=hg.go hR
 have h21:s2.e=0→s.e=0:=fun he=>(G_goes ws n _ _ _ hR he).1
 refine Does.shr (K:=fun r H'=>r=.tuple #[]∧∃ y',ItOk F b bo y'∧y'.s=s2∧y'.ns=ns∧(s2.e=0→y'.ks=ks++[x])∧y'.css.length=css.length+1∧∀ e∈itH l b bo 19 y',e∈H') ?_ fun r H' ⟨h1,y',a1,a2,a3,a4,a5,a6⟩=>⟨_,a6,h1,y',a1,a2,a3,a4,a5,rfl⟩
 refine does_of_svc (args:=[.pointer (some ⟨bo,0,none⟩),.pointer (some ⟨b1,0,none⟩)]) mixed Tryz.func131 low131 (Nat.le_of_ble_eq_true rfl) fun w0 hw0=>?_
 unfold itH
 dsimp only
 obtain ⟨base,capk,hvk,hck⟩:=hk.len_le
 subst hvk
 have fl:=flat_len12 h12
 have ok1:Nb b Hk:=.of fun e he=>(ok e he).1
 have ok2:Nb bo Hk:=.of fun e he=>(ok e he).2
 have on1:Nb b Hn:=.of fun e he=>(on e he).1
 have on2:Nb bo Hn:=.of fun e he=>(on e he).2
 have og1:Nb b G0:=.of fun e he=>(og e he).1
 have og2:Nb bo G0:=.of fun e he=>(og e he).2
 have kn1:Dj Hn Hk:=Dj.iff.2 fun e he e' he'=>kn e' he' e he
 have kn2:=kn1.symm
 have kg1:Dj Hk G0:=Dj.iff.2 fun e he e' he'=>(kg e he e' he').symm
 have ng1:Dj Hn G0:=Dj.iff.2 fun e he e' he'=>(ng e he e' he').symm
 have gn1:=ng1.symm
 have nk:=hk.noF
 have hwk:=OwnS.sub hk
 have nn:=hn.noF
 have hbo':=hbo.symm
 clear ok on og kn kg ng hns
 delta fu131
 simp only [*,↓ZD,ZW,RO,simprocAttr]
 refine TreeL.open ?_
 simp only [*,↓ZD,ZW,RO,simprocAttr]
 refine ⟨⟨?c1,?n1⟩,?c2,?n2⟩
 case' c1 | c2=>
  refine CallE.par hx hA hg hR rfl (by simp only [*,List.append_nil,↓ZD,ZW,RO,simprocAttr]) ?_
  rintro p1 cs1 G1 hA1 hr1 ⟨c12,nb1,hd1,hx1,hw1⟩
  have cok:=c12.2.1
  simp only [Dj_cons,Dj_app,Dj_nil] at hd1
  simp only [*,List.append_assoc,↓ZD,ZW,RO,simprocAttr]
  refine NewB.n ?_
  intro bz hz hFz
  simp only [Nb_cons,Nb_app,Nb_nil] at hz
  simp only [*,List.append_assoc,↓ZD,ZW,RO,simprocAttr]
 case' n1 | n2=>
  refine NewB.n ?_
  intro bz hz hFz
  simp only [Nb_cons,Nb_app,Nb_nil] at hz
  simp only [*,List.append_assoc,↓ZD,ZW,RO,simprocAttr]
 case' n2=>refine ⟨?_,?_⟩
 case' n1 | n2.refine_1 | n2.refine_2=>
  refine CallE.par hx hA hg hR rfl (by simp only [*,List.append_nil,↓ZD,ZW,RO,simprocAttr]) ?_
  rintro p1 cs1 G1 hA1 hr1 ⟨c12,nb1,hd1,hx1,hw1⟩
  have cok:=c12.2.1
  simp only [Dj_cons,Dj_app,Dj_nil] at hd1
  simp only [*,List.append_assoc,↓ZD,ZW,RO,simprocAttr]
 all_goals
  have d1:Dj G1 Hk:=Dj.symm (by simp only [*,↓ZD,ZW,RO,simprocAttr])
  refine EfL.more (m:=1) (nw:=zx) hk (by simp only [*,↓ZD,ZW,RO,simprocAttr]) ?_ rfl (by decide) (by simp) (by omega) ?_
  ·rw [rowsOf_sl,cellsAt_O,rdObj_own hFz];simp only [lk, *];rfl
  intro b2 cap sp hs hcap hcm hF2 h2
  simp only [Nb_cons,Nb_app,Nb_nil] at h2
  have e0:(css.flatten++zx++sp).length=css.length * 12+12+sp.length:=by simp only [List.length_append,fl,List.length_cons,List.length_nil]
  have e1:(css.flatten++zx++sp).take (css.length * 12)=css.flatten:=by rw [List.append_assoc];exact List.take_left' fl
  have e2:(css.flatten++zx++sp).drop (css.length * 12+12)=sp:=by rw [← List.drop_drop,List.append_assoc,List.drop_left' fl];rfl
  have hi:((css.length:Nat):Int).toNat=css.length:=Int.toNat_natCast _
  simp only [*,↓ZD,ZW,RO,simprocAttr]
  refine conj.of (by omega) ?_
  simp only [*,↓ZD,ZW,RO,simprocAttr]
  obtain ⟨h2a,h2b,h2c,h2d⟩:Nb b2 Hn∧Nb b2 G1∧Nb bo G1∧Dj Hn G1:=by simp only [h2,hd1,and_self]
  try refine (fun h=>And.intro h h) ?_
  refine ⟨_,ItOk.add hA1 hg2 h12 c12.1 hn hnl (fun he=>⟨⟨(hr (h21 he)).1,fun i c t hc ht=>((hr (h21 he)).2 i c t hc ht).mono hx1⟩,hr1 he⟩) hF2 hs hcap hcm (by simp only [h2,ne_eq,not_false_eq_true]) (by simp only [h2,ne_eq,not_false_eq_true]) (fun e he=>⟨on1.all e he,on2.all e he⟩) nb1.all h2c.all h2a.all h2b.all (fun e he e' he'=>(Dj.iff.1 h2d e he e' he').symm) hw1 (by first | omega | (simp only [List.length_append,List.length_cons,List.length_nil];omega)),rfl,rfl,fun _=>rfl,by simp,?_⟩
  intro e he
  simp only [List.mem_cons,List.mem_append,List.not_mem_nil,or_false] at he ⊢
  rcases he with rfl | rfl | rfl | h | h <;> simp [*]
set_option maxHeartbeats 2000000 in
theorem one2 (F:Base) {ws:Ws} (hws:WsOk ws) {l:Value} (hW:HasW F ws l) {b bo b1 T1:Nat} {fz:Nat×Nat} (hbo:b≠bo) (hFb:F b=none) (hFo:F bo=none) (h1:F b1=some (.cells #[.pointer (some ⟨b,0,none⟩)] T1 fz)) (n:Nat) (hx:Prs F l 25 (G ws n .expr)) :
  OneC F ws l b bo 20 (.func (.func 132) #[] #[.pointer (some ⟨b1,0,none⟩),.pointer (some ⟨bo,0,none⟩)]) n:=by
 refine ⟨_,_,rfl,one2_call,fun y x s2 hy hcl hns hR=>?_⟩
 obtain ⟨p,s,ks,ns,css,vk,vn,Hk,Hn,G0⟩:=y
 obtain ⟨hA,hg,hk,h12,hn,hnl,hr,ok,on,og,kn,kg,ng,hw,hle⟩:=hy
 dsimp only at hA hg hk h12 hn hnl hr ok on og kn kg ng hw hle hcl hns hR ⊢
 rw [show headS ws 20 ns s=(ns++[(takeS ws s (if wk ws s=3 then 3 else 1)).1],mustS ws (takeS ws s (if wk ws s=3 then 3 else 1)).2 [58]) from if_pos rfl] at hR ⊢
 simp only at hR ⊢
 have hgm:Good (mustS ws (takeS ws s (if wk ws s=3 then 3 else 1)).2 [58]):=hg.take.must
 have hg2:=hgm.go hR
 have h21:s2.e=0→s.e=0:=fun he=>take_e (must_e (G_goes ws n _ _ _ hR he).1)
 refine Does.shr (K:=fun r H'=>r=.tuple #[]∧∃ y',ItOk F b bo y'∧y'.s=s2∧y'.ns=ns++[(takeS ws s (if wk ws s=3 then 3 else 1)).1]∧(s2.e=0→y'.ks=ks++[x])∧y'.css.length=css.length+1∧∀ e∈itH l b bo 20 y',e∈H') ?_ fun r H' ⟨h1,y',a1,a2,a3,a4,a5,a6⟩=>⟨_,a6,h1,y',a1,a2,a3,a4,a5,rfl⟩
 refine does_of_svc (args:=[.pointer (some ⟨b1,0,none⟩),.pointer (some ⟨bo,0,none⟩)]) mixed Tryz.func132 low132 (Nat.le_of_ble_eq_true rfl) fun w0 hw0=>?_
 unfold itH
 dsimp only
 obtain ⟨base,capk,hvk,hck⟩:=hk.len_le
 subst hvk
 have fl:=flat_len12 h12
 have ok1:Nb b Hk:=.of fun e he=>(ok e he).1
 have ok2:Nb bo Hk:=.of fun e he=>(ok e he).2
 have on1:Nb b Hn:=.of fun e he=>(on e he).1
 have on2:Nb bo Hn:=.of fun e he=>(on e he).2
 have og1:Nb b G0:=.of fun e he=>(og e he).1
 have og2:Nb bo G0:=.of fun e he=>(og e he).2
 have kn1:Dj Hn Hk:=Dj.iff.2 fun e he e' he'=>kn e' he' e he
 have kn2:=kn1.symm
 have kg1:Dj Hk G0:=Dj.iff.2 fun e he e' he'=>(kg e he e' he').symm
 have ng1:Dj Hn G0:=Dj.iff.2 fun e he e' he'=>(ng e he e' he').symm
 have gn1:=ng1.symm
 have nk:=hk.noF
 have hwk:=OwnS.sub hk
 have nn:=hn.noF
 have hbo':=hbo.symm
 clear ok on og kn kg ng hns
 obtain ⟨basn,capn,hvn,hcn⟩:=hn.len_le
 subst hvn
 simp (disch:=first | assumption | exact .symm ‹_› | omega) only [fu132,hFb,hFo,h1,↓ZD,ZW,simprocAttr]
 refine CallE.pureH (word_pure (b:=b) (p:=p) _ (hW.mono le_up) (by simp [rdObj,hFb,lk])) ?_
 simp (disch:=first | assumption | exact .symm ‹_› | omega) only [hFb,hFo,h1,wf0,wsz,↓ZD,ZW,simprocAttr]
 have hkd:∀ k:Int,k=(if wk ws p=3 then 3 else 1)→(takeS ws p k).1=(takeS ws s (if wk ws s=3 then 3 else 1)).1∧Agr (takeS ws p k).2 (takeS ws s (if wk ws s=3 then 3 else 1)).2:=fun k h=>take_two hA h
 have hTl:(takeS ws s (if wk ws s=3 then 3 else 1)).1.length≤65536:=take_name hws
 generalize (takeS ws s (if wk ws s=3 then 3 else 1))=TS at *
 refine ⟨fun hq=>?_,fun hq=>?_⟩
 ·have hk3:(3:Int)=(if wk ws p=3 then 3 else 1):=by rw [if_pos (show wk ws p=3 from beq_iff_eq.1 hq)]
  obtain ⟨hT1,hT2⟩:=hkd _ hk3
  clear hk3 hkd
  refine TreeL.cut (α:=Hp×Value) (fun y=>OwnS F 1 9 ((ns++[TS.1]).map fun s=>Value.string (bs s)) (ns++[TS.1]).length y.2 y.1∧(Nb b y.1∧Nb bo y.1)∧(Dj Hk y.1∧Dj y.1 Hk)∧Dj y.1 G0)
   (fun y=>[(0,some (.pointer (some ⟨b1,0,none⟩))),(1,some (.pointer (some ⟨bo,0,none⟩)))]) (fun y=>(b,RdO l (takeS ws p 3).2)::(bo,outO 20 (.slice base css.length capk) y.2)::(Hk++(y.1++G0))) ?_ ?_
  ·simp only [*,↓ZD,ZW,RO,simprocAttr]
   refine ⟨?_,?_⟩
   iterate 2
    ·refine CallE.rdq (fun F' hF hb=>take_rd F' (hW.mono hF) hb p 3 (by decide)) rfl (by simp only [*,List.append_nil,↓ZD,ZW,RO,simprocAttr]) ?_
     rw [hT1]
     simp only [*,List.append_assoc,List.append_nil,↓ZD,ZW,RO,simprocAttr]
     refine NewB.n ?_
     intro bz hz hFz
     simp only [Nb_cons,Nb_app,Nb_nil] at hz
     simp only [*,List.append_assoc,↓ZD,ZW,RO,simprocAttr]
     refine EfL.more (m:=1) (nw:=[Value.string (bs TS.1)]) hn (by simp only [*,↓ZD,ZW,RO,simprocAttr]) ?_ rfl (by simp [oneCell]) (by simp) (by omega) ?_
     ·rw [rowsOf_sl,cellsAt_O,rdObj_own hFz];simp only [lk, *];rfl
     intro bn cap sp hs hcap hcm hFn h2
     simp only [Nb_cons,Nb_app,Nb_nil] at h2
     simp only [*,List.append_assoc,↓ZD,ZW,RO,simprocAttr]
     obtain ⟨h2k,h2g⟩:Nb bn Hk∧Nb bn G0:=by simp only [h2,and_self]
     refine CutK.on ([(bn,.cells ((ns.map fun s=>Value.string (bs s))++[Value.string (bs TS.1)]++sp).toArray 9 (0,0))],.slice (some ⟨bn,0,none⟩) (ns.length+1) cap) ⟨OwnS.mk sp hFn (by simp) (by simp) (by simp) (by simpa using hs) (by simpa using hcap) hcm,by simp only [*,↓ZD,ZW,RO,simprocAttr],⟨Dj.symm ⟨h2k,trivial⟩,⟨h2k,trivial⟩⟩,⟨h2g,trivial⟩⟩ (by simp only [*,↓ZD,ZW,RO,simprocAttr]) ?_
     simp only [*,List.append_assoc,↓ZD,ZW,RO,simprocAttr]
  ·rintro ⟨Hn,vn2⟩ ⟨hn2,⟨on1',on2'⟩,⟨kn2',kn1'⟩,ng1'⟩
   dsimp only at hn2 on1' on2' kn1' kn2' ng1' ⊢
   clear hn on1 on2 kn1 kn2 ng1 gn1 nn
   have gn1:=ng1'.symm
   have nn:=hn2.noF
   have hn:=hn2
   have on1:=on1'
   have on2:=on2'
   simp only [*,↓ZD,ZW,RO,simprocAttr]
   refine CallE.rdq (must_q hW (takeS ws p 3).2 [58]) rfl (by simp only [*,List.append_nil,↓ZD,ZW,RO,simprocAttr]) ?_
   have hA:=hT2.must (t:=[58]) (ws:=ws)
   have hnl:∀ s∈ns++[TS.1],s.length≤65536:=fun s hs=>by
    rcases List.mem_append.1 hs with h | h
    ·exact hnl s h
    ·rw [List.mem_singleton.1 h];exact hTl
   have hg:=hgm
   simp only [*,List.append_assoc,List.append_nil,↓ZD,ZW,RO,simprocAttr]
   refine TreeL.open ?_
   simp only [*,↓ZD,ZW,RO,simprocAttr]
   refine ⟨⟨?c1,?n1⟩,?c2,?n2⟩
   case' c1 | c2=>
    refine CallE.par hx hA hg hR rfl (by simp only [*,List.append_nil,↓ZD,ZW,RO,simprocAttr]) ?_
    rintro p1 cs1 G1 hA1 hr1 ⟨c12,nb1,hd1,hx1,hw1⟩
    have cok:=c12.2.1
    simp only [Dj_cons,Dj_app,Dj_nil] at hd1
    simp only [*,List.append_assoc,↓ZD,ZW,RO,simprocAttr]
    refine NewB.n ?_
    intro bz hz hFz
    simp only [Nb_cons,Nb_app,Nb_nil] at hz
    simp only [*,List.append_assoc,↓ZD,ZW,RO,simprocAttr]
   case' n1 | n2=>
    refine NewB.n ?_
    intro bz hz hFz
    simp only [Nb_cons,Nb_app,Nb_nil] at hz
    simp only [*,List.append_assoc,↓ZD,ZW,RO,simprocAttr]
   case' n2=>refine ⟨?_,?_⟩
   case' n1 | n2.refine_1 | n2.refine_2=>
    refine CallE.par hx hA hg hR rfl (by simp only [*,List.append_nil,↓ZD,ZW,RO,simprocAttr]) ?_
    rintro p1 cs1 G1 hA1 hr1 ⟨c12,nb1,hd1,hx1,hw1⟩
    have cok:=c12.2.1
    simp only [Dj_cons,Dj_app,Dj_nil] at hd1
    simp only [*,List.append_assoc,↓ZD,ZW,RO,simprocAttr]
   all_goals
    have d1:Dj G1 Hk:=Dj.symm (by simp only [*,↓ZD,ZW,RO,simprocAttr])
    refine EfL.more (m:=1) (nw:=zx) hk (by simp only [*,↓ZD,ZW,RO,simprocAttr]) ?_ rfl (by decide) (by simp) (by omega) ?_
    ·rw [rowsOf_sl,cellsAt_O,rdObj_own hFz];simp only [lk, *];rfl
    intro b2 cap sp hs hcap hcm hF2 h2
    simp only [Nb_cons,Nb_app,Nb_nil] at h2
    have e0:(css.flatten++zx++sp).length=css.length * 12+12+sp.length:=by simp only [List.length_append,fl,List.length_cons,List.length_nil]
    have e1:(css.flatten++zx++sp).take (css.length * 12)=css.flatten:=by rw [List.append_assoc];exact List.take_left' fl
    have e2:(css.flatten++zx++sp).drop (css.length * 12+12)=sp:=by rw [← List.drop_drop,List.append_assoc,List.drop_left' fl];rfl
    have hi:((css.length:Nat):Int).toNat=css.length:=Int.toNat_natCast _
    simp only [*,↓ZD,ZW,RO,simprocAttr]
    refine conj.of (by omega) ?_
    simp only [*,↓ZD,ZW,RO,simprocAttr]
    obtain ⟨h2a,h2b,h2c,h2d⟩:Nb b2 Hn∧Nb b2 G1∧Nb bo G1∧Dj Hn G1:=by simp only [h2,hd1,and_self]
    try refine (fun h=>And.intro h h) ?_
    refine ⟨_,ItOk.add hA1 hg2 h12 c12.1 hn hnl (fun he=>⟨⟨(hr (h21 he)).1,fun i c t hc ht=>((hr (h21 he)).2 i c t hc ht).mono hx1⟩,hr1 he⟩) hF2 hs hcap hcm (by simp only [h2,ne_eq,not_false_eq_true]) (by simp only [h2,ne_eq,not_false_eq_true]) (fun e he=>⟨on1.all e he,on2.all e he⟩) nb1.all h2c.all h2a.all h2b.all (fun e he e' he'=>(Dj.iff.1 h2d e he e' he').symm) hw1 (by first | omega | (simp only [List.length_append,List.length_cons,List.length_nil];omega)),rfl,rfl,fun _=>rfl,by simp,?_⟩
    intro e he
    simp only [List.mem_cons,List.mem_append,List.not_mem_nil,or_false] at he ⊢
    rcases he with rfl | rfl | rfl | h | h <;> simp [*]
 ·have hk3:(1:Int)=(if wk ws p=3 then 3 else 1):=by rw [if_neg (show ¬ wk ws p=3 from beq_eq_false_iff_ne.1 hq)]
  obtain ⟨hT1,hT2⟩:=hkd _ hk3
  clear hk3 hkd
  refine TreeL.cut (α:=Hp×Value) (fun y=>OwnS F 1 9 ((ns++[TS.1]).map fun s=>Value.string (bs s)) (ns++[TS.1]).length y.2 y.1∧(Nb b y.1∧Nb bo y.1)∧(Dj Hk y.1∧Dj y.1 Hk)∧Dj y.1 G0)
   (fun y=>[(0,some (.pointer (some ⟨b1,0,none⟩))),(1,some (.pointer (some ⟨bo,0,none⟩)))]) (fun y=>(b,RdO l (takeS ws p 1).2)::(bo,outO 20 (.slice base css.length capk) y.2)::(Hk++(y.1++G0))) ?_ ?_
  ·simp only [*,↓ZD,ZW,RO,simprocAttr]
   refine ⟨?_,?_⟩
   iterate 2
    ·refine CallE.rdq (fun F' hF hb=>take_rd F' (hW.mono hF) hb p 1 (by decide)) rfl (by simp only [*,List.append_nil,↓ZD,ZW,RO,simprocAttr]) ?_
     rw [hT1]
     simp only [*,List.append_assoc,List.append_nil,↓ZD,ZW,RO,simprocAttr]
     refine NewB.n ?_
     intro bz hz hFz
     simp only [Nb_cons,Nb_app,Nb_nil] at hz
     simp only [*,List.append_assoc,↓ZD,ZW,RO,simprocAttr]
     refine EfL.more (m:=1) (nw:=[Value.string (bs TS.1)]) hn (by simp only [*,↓ZD,ZW,RO,simprocAttr]) ?_ rfl (by simp [oneCell]) (by simp) (by omega) ?_
     ·rw [rowsOf_sl,cellsAt_O,rdObj_own hFz];simp only [lk, *];rfl
     intro bn cap sp hs hcap hcm hFn h2
     simp only [Nb_cons,Nb_app,Nb_nil] at h2
     simp only [*,List.append_assoc,↓ZD,ZW,RO,simprocAttr]
     obtain ⟨h2k,h2g⟩:Nb bn Hk∧Nb bn G0:=by simp only [h2,and_self]
     refine CutK.on ([(bn,.cells ((ns.map fun s=>Value.string (bs s))++[Value.string (bs TS.1)]++sp).toArray 9 (0,0))],.slice (some ⟨bn,0,none⟩) (ns.length+1) cap) ⟨OwnS.mk sp hFn (by simp) (by simp) (by simp) (by simpa using hs) (by simpa using hcap) hcm,by simp only [*,↓ZD,ZW,RO,simprocAttr],⟨Dj.symm ⟨h2k,trivial⟩,⟨h2k,trivial⟩⟩,⟨h2g,trivial⟩⟩ (by simp only [*,↓ZD,ZW,RO,simprocAttr]) ?_
     simp only [*,List.append_assoc,↓ZD,ZW,RO,simprocAttr]
  ·rintro ⟨Hn,vn2⟩ ⟨hn2,⟨on1',on2'⟩,⟨kn2',kn1'⟩,ng1'⟩
   dsimp only at hn2 on1' on2' kn1' kn2' ng1' ⊢
   clear hn on1 on2 kn1 kn2 ng1 gn1 nn
   have gn1:=ng1'.symm
   have nn:=hn2.noF
   have hn:=hn2
   have on1:=on1'
   have on2:=on2'
   simp only [*,↓ZD,ZW,RO,simprocAttr]
   refine CallE.rdq (must_q hW (takeS ws p 1).2 [58]) rfl (by simp only [*,List.append_nil,↓ZD,ZW,RO,simprocAttr]) ?_
   have hA:=hT2.must (t:=[58]) (ws:=ws)
   have hnl:∀ s∈ns++[TS.1],s.length≤65536:=fun s hs=>by
    rcases List.mem_append.1 hs with h | h
    ·exact hnl s h
    ·rw [List.mem_singleton.1 h];exact hTl
   have hg:=hgm
   simp only [*,List.append_assoc,List.append_nil,↓ZD,ZW,RO,simprocAttr]
   refine TreeL.open ?_
   simp only [*,↓ZD,ZW,RO,simprocAttr]
   refine ⟨⟨?c1a,?n1a⟩,?c2a,?n2a⟩
   case' c1a | c2a=>
    refine CallE.par hx hA hg hR rfl (by simp only [*,List.append_nil,↓ZD,ZW,RO,simprocAttr]) ?_
    rintro p1 cs1 G1 hA1 hr1 ⟨c12,nb1,hd1,hx1,hw1⟩
    have cok:=c12.2.1
    simp only [Dj_cons,Dj_app,Dj_nil] at hd1
    simp only [*,List.append_assoc,↓ZD,ZW,RO,simprocAttr]
    refine NewB.n ?_
    intro bz hz hFz
    simp only [Nb_cons,Nb_app,Nb_nil] at hz
    simp only [*,List.append_assoc,↓ZD,ZW,RO,simprocAttr]
   case' n1a | n2a=>
    refine NewB.n ?_
    intro bz hz hFz
    simp only [Nb_cons,Nb_app,Nb_nil] at hz
    simp only [*,List.append_assoc,↓ZD,ZW,RO,simprocAttr]
   case' n2a=>refine ⟨?_,?_⟩
   case' n1a | n2a.refine_1 | n2a.refine_2=>
    refine CallE.par hx hA hg hR rfl (by simp only [*,List.append_nil,↓ZD,ZW,RO,simprocAttr]) ?_
    rintro p1 cs1 G1 hA1 hr1 ⟨c12,nb1,hd1,hx1,hw1⟩
    have cok:=c12.2.1
    simp only [Dj_cons,Dj_app,Dj_nil] at hd1
    simp only [*,List.append_assoc,↓ZD,ZW,RO,simprocAttr]
   all_goals
    have d1:Dj G1 Hk:=Dj.symm (by simp only [*,↓ZD,ZW,RO,simprocAttr])
    refine EfL.more (m:=1) (nw:=zx) hk (by simp only [*,↓ZD,ZW,RO,simprocAttr]) ?_ rfl (by decide) (by simp) (by omega) ?_
    ·rw [rowsOf_sl,cellsAt_O,rdObj_own hFz];simp only [lk, *];rfl
    intro b2 cap sp hs hcap hcm hF2 h2
    simp only [Nb_cons,Nb_app,Nb_nil] at h2
    have e0:(css.flatten++zx++sp).length=css.length * 12+12+sp.length:=by simp only [List.length_append,fl,List.length_cons,List.length_nil]
    have e1:(css.flatten++zx++sp).take (css.length * 12)=css.flatten:=by rw [List.append_assoc];exact List.take_left' fl
    have e2:(css.flatten++zx++sp).drop (css.length * 12+12)=sp:=by rw [← List.drop_drop,List.append_assoc,List.drop_left' fl];rfl
    have hi:((css.length:Nat):Int).toNat=css.length:=Int.toNat_natCast _
    simp only [*,↓ZD,ZW,RO,simprocAttr]
    refine conj.of (by omega) ?_
    simp only [*,↓ZD,ZW,RO,simprocAttr]
    obtain ⟨h2a,h2b,h2c,h2d⟩:Nb b2 Hn∧Nb b2 G1∧Nb bo G1∧Dj Hn G1:=by simp only [h2,hd1,and_self]
    try refine (fun h=>And.intro h h) ?_
    refine ⟨_,ItOk.add hA1 hg2 h12 c12.1 hn hnl (fun he=>⟨⟨(hr (h21 he)).1,fun i c t hc ht=>((hr (h21 he)).2 i c t hc ht).mono hx1⟩,hr1 he⟩) hF2 hs hcap hcm (by simp only [h2,ne_eq,not_false_eq_true]) (by simp only [h2,ne_eq,not_false_eq_true]) (fun e he=>⟨on1.all e he,on2.all e he⟩) nb1.all h2c.all h2a.all h2b.all (fun e he e' he'=>(Dj.iff.1 h2d e he e' he').symm) hw1 (by first | omega | (simp only [List.length_append,List.length_cons,List.length_nil];omega)),rfl,rfl,fun _=>rfl,by simp,?_⟩
    intro e he
    simp only [List.mem_cons,List.mem_append,List.not_mem_nil,or_false] at he ⊢
    rcases he with rfl | rfl | rfl | h | h <;> simp [*]
theorem stp_call_guard {P:Program} {X:List Nat} {F:Base} {w0:World} {N f l:Nat} {args:List Eng.X} {d:Option Nat} {U:Fr} {C:Cf} {H:Hp} {next:Fr→Cf→Hp→Prop} {vs:List Value} (hr:rds U C (chain C (some l)) args=some vs)
  (h1:Wf U C (chain C (some l)) (chain C (some l))→@CallE P X F w0 f vs.toArray H ⟨fun v H'=>put d (chain C (some l)) v U C H' next⟩) (h2:NW U C (chain C (some l))→skp d (chain C (some l)) U C (fun U C=>next U C H)) :
  stp P X F w0 N ⟨d,.call f args,some l,.e⟩ U C H next:=by
 unfold stp
 simp only [hr]
 exact ⟨h1,h2⟩
theorem it_wk {F:Base} {l:Value} {b bo:Nat} {op:Int} {y:ItS} (h:ItOk F b bo y) (hbo:b≠bo):Wk (itH l b bo op y):=by
 have w1:Wk (y.Hn++y.G):=(OwnS.sub h.hn).app h.w fun e he e' he'=>(h.ng e he e' he').symm
 have w2:Wk (y.Hk++(y.Hn++y.G)):=(OwnS.sub h.hk).app w1 fun e he e' he'=>by
  rcases List.mem_append.1 he' with h' | h'
  ·exact (h.kn e he e' h').symm
  ·exact (h.kg e he e' h').symm
 refine Wk.cons ?_ (Wk.cons ?_ w2)
 ·exact all_cons hbo.symm (all_app (fun e he=>(h.ok e he).1) (all_app (fun e he=>(h.on e he).1) fun e he=>(h.og e he).1))
 ·exact all_app (fun e he=>(h.ok e he).2) (all_app (fun e he=>(h.on e he).2) fun e he=>(h.og e he).2)
theorem it_wkx {F:Base} {b bo:Nat} {y:ItS} (h:ItOk F b bo y):Wk (y.Hk++(y.Hn++y.G)):=
 (OwnS.sub h.hk).app ((OwnS.sub h.hn).app h.w fun e he e' he'=>(h.ng e he e' he').symm) fun e he e' he'=>by
  rcases List.mem_append.1 he' with h' | h'
  ·exact (h.kn e he e' h').symm
  ·exact (h.kg e he e' h').symm
theorem it_off {F:Base} {b bo:Nat} {op:Int} {y:ItS} (h:ItOk F b bo y) (hbo:b≠bo):∀ e∈(bo,outO op y.vk y.vn)::(y.Hk++(y.Hn++y.G)),e.1≠b:=
 all_cons hbo.symm (all_app (fun e he=>(h.ok e he).1) (all_app (fun e he=>(h.on e he).1) fun e he=>(h.og e he).1))
theorem ItOk.st {F:Base} {b bo:Nat} {y:ItS} (h:ItOk F b bo y) {p s:St} (hA:Agr p s) (hg:Good s) (he:s.e=0→y.s.e=0):ItOk F b bo { y with p:=p,s:=s }:=
 ⟨hA,hg,h.hk,h.h12,h.hn,h.nl,fun h0=>h.r (he h0),h.ok,h.on,h.og,h.kn,h.kg,h.ng,h.w,h.le⟩
structure LsI (F:Base) (ws:Ws) (b bo:Nat) (op:Int) (N:Nat) (xF:Ex') (sF:St) (y:ItS×Nat):Prop where
 h:ItOk F b bo y.1
 c:y.1.s.e=0→(y.1.css.length:Int)≤y.1.s.p+1∧y.1.css.length≤65538
 c2:y.1.css.length≤65539
 m:y.2≤N
 n:op≠20→y.1.ns=[]
 R:(isS ws y.1.s (endOf op)=true∧xF=.mk op lv0 [] y.1.ks y.1.ns∧sF=adv y.1.s)∨(isS ws y.1.s (endOf op)=false∧(y.1.s.e=0→G ws y.2 (.its op y.1.ns y.1.ks) (mustS ws y.1.s [44])=some (xF,sF))∧(y.1.s.e≠0→xF=nilX∧sF=y.1.s))
theorem head_goes {ws:Ws} {n:Nat} {op:Int} {ns:List Str} {s s2:St} {x:Ex'} (h:G ws n .expr (headS ws op ns s).2=some (x,s2)):Fwd 0 s s2:=Fwd.head.trans (G_goes ws n _ _ _ h)
theorem its_one {ws:Ws} {m:Nat} {op:Int} {ns:List Str} {ks:List Ex'} {s s':St} {x:Ex'} (h:G ws m (.its op ns ks) s=some (x,s')) :
  ∃ m' x1 s1,m'≤m∧(s.e=0→m' < m)∧G ws m' .expr (headS ws op ns s).2=some (x1,s1)∧((isS ws s1 (endOf op)=true∧x=.mk op lv0 [] (ks++[x1]) (headS ws op ns s).1∧s'=adv s1)∨(isS ws s1 (endOf op)=false∧(s1.e=0→G ws m' (.its op (headS ws op ns s).1 (ks++[x1])) (mustS ws s1 [44])=some (x,s'))∧(s1.e≠0→x=nilX∧s'=s1))):=by
 by_cases he:s.e=0
 ·cases m with
  | zero=>exact absurd he (G_zero h).1
  | succ m=>
   rw [G_succ,if_pos he] at h
   obtain ⟨⟨x1,s1⟩,h1,h2⟩:=bind_some h
   refine ⟨m,x1,s1,Nat.le_succ _,fun _=>Nat.lt_succ_self _,h1,?_⟩
   simp only at h2
   cases hi:isS ws s1 (endOf op) with
   | true=>
    rw [hi,if_pos rfl] at h2
    simp only [Option.some.injEq,Prod.mk.injEq] at h2
    exact .inl ⟨rfl,h2.1.symm,h2.2.symm⟩
   | false=>
    rw [hi,if_neg (by decide)] at h2
    refine .inr ⟨rfl,fun _=>h2,fun h0=>?_⟩
    rw [mustS_err h0] at h2
    exact G_err h0 _ _ h2
 ·obtain ⟨rfl,rfl⟩:=G_err he _ _ h
  have hh:(headS ws op ns s').2=s':=by
   unfold headS;split
   ·simp only [takeS_err he,mustS_err he]
   ·rfl
  refine ⟨m,nilX,s',Nat.le_refl _,fun h0=>absurd h0 he,by rw [hh];exact G_at he,.inr ⟨isS_err he,fun h0=>absurd h0 he,fun _=>⟨rfl,rfl⟩⟩⟩
theorem next_R {ws:Ws} {m':Nat} {op:Int} {ks:List Ex'} {ns':List Str} {x1 xF:Ex'} {s1 sF:St} {y':ItS} (k2:y'.s=s1) (k3:y'.ns=ns') (k4:s1.e=0→y'.ks=ks++[x1])
  (hC:(isS ws s1 (endOf op)=true∧xF=.mk op lv0 [] (ks++[x1]) ns'∧sF=adv s1)∨(isS ws s1 (endOf op)=false∧(s1.e=0→G ws m' (.its op ns' (ks++[x1])) (mustS ws s1 [44])=some (xF,sF))∧(s1.e≠0→xF=nilX∧sF=s1))) :
  (isS ws y'.s (endOf op)=true∧xF=.mk op lv0 [] y'.ks y'.ns∧sF=adv y'.s)∨(isS ws y'.s (endOf op)=false∧(y'.s.e=0→G ws m' (.its op y'.ns y'.ks) (mustS ws y'.s [44])=some (xF,sF))∧(y'.s.e≠0→xF=nilX∧sF=y'.s)):=by
 subst k2 k3
 rcases hC with ⟨a,b,c⟩ | ⟨a,b,c⟩
 ·exact .inl ⟨a,by rw [k4 (isS_ok a)];exact b,c⟩
 ·exact .inr ⟨a,fun h=>by rw [k4 h];exact b h,c⟩
theorem CallEF.one {X:List Nat} {F:Base} {w0:World} {ws:Ws} {l:Value} {b bo:Nat} {op:Int} {fv:Value} {n:Nat} {K:Value→Hp→Prop} (h:OneC F ws l b bo op fv n) {y:ItS} {x:Ex'} {s2:St} (hy:ItOk F b bo y) (hc:y.css.length≤65540) (hn:op≠20→y.ns=[]) (hR:G ws n .expr (headS ws op y.ns y.s).2=some (x,s2))
  (hk:∀ y',ItOk F b bo y'→y'.s=s2→y'.ns=(headS ws op y.ns y.s).1→(s2.e=0→y'.ks=y.ks++[x])→y'.css.length=y.css.length+1→K (.tuple #[]) (itH l b bo op y')) :
  @CallEF Tryz.prog X F w0 fv [] (itH l b bo op y) ⟨K⟩:=by
 obtain ⟨f,ca,rfl,hcl,hf⟩:=h
 refine CallEF.does (itH l b bo op y) [] hcl (by simpa using hf y x s2 hy hc hn hR) (fun _ _ h=>by simp [rdObj,h]) (fun e h=>h) (fun e h=>by cases h) (fun e h=>by cases h) ?_
 rintro v H' ⟨rfl,y',k1,k2,k3,k4,k5,rfl⟩ - - -
 exact hk y' k1 k2 k3 k4 k5
theorem list_does (F:Base) {ws:Ws} (hws:WsOk ws) {l:Value} (hW:HasW F ws l) {b bo:Nat} (hbo:b≠bo) (hFb:F b=none) (hFo:F bo=none) (op:Int) {fv:Value} (N:Nat) (h1:∀ n≤N,OneC F ws l b bo op fv n)
  (y:ItS) (hy:ItOk F b bo y) (hks:y.ks=[]) (hns:y.ns=[]) (hcs:y.css=[]) (he:y.s.e=0) (hpos:0≤y.s.p) {x:Ex'} {s':St} (hR:itemsG ws (G ws N) op y.s=some (x,s')) :
  Does Tryz.prog F 130 #[.pointer (some ⟨b,0,none⟩),.string (bs (endOf op)),fv] (itH l b bo op y) (fun r H'=>r=.tuple #[]∧∃ y',ItOk F b bo y'∧y'.s=s'∧(s'.e=0→x=.mk op lv0 [] y'.ks y'.ns)∧y'.css.length≤65540∧H'=itH l b bo op y'):=by
 refine does_of_svc (args:=[.pointer (some ⟨b,0,none⟩),.string (bs (endOf op)),fv]) mixed Tryz.func130 low130 (Nat.le_of_ble_eq_true rfl) fun w0 hw0=>?_
 have hpe:y.p=y.s:=hy.A.ok he
 simp (disch:=first | assumption | exact .symm ‹_› | omega) only [fu130,↓ZD,ZW,simprocAttr]
 refine CallE.rd1 ((bo,outO op y.vk y.vn)::(y.Hk++(y.Hn++y.G))) (skip_rd _ (hW.mono le_up) (rdObj_none hFb (it_off hy hbo)) y.p (endOf op)) (by simp [itH]) (by intro e he;exact List.mem_cons_of_mem _ he) (it_off hy hbo) ?_
 rw [hpe]
 unfold itemsG at hR
 cases hi:isS ws y.s (endOf op) with
 | true=>
  rw [hi,if_pos rfl] at hR
  simp only [Option.some.injEq,Prod.mk.injEq] at hR
  obtain ⟨rfl,rfl⟩:=hR
  simp (disch:=first | assumption | exact .symm ‹_› | omega) only [hi,↓ZD,ZW,simprocAttr]
  exact ⟨{ y with p:=adv y.s,s:=adv y.s },hy.st Agr.rfl' hy.g.adv (fun _=>he),rfl,fun _=>by rw [hks,hns],by rw [hcs];decide,rfl⟩
 | false=>
  rw [hi,if_neg (by decide)] at hR
  simp (disch:=first | assumption | exact .symm ‹_› | omega) only [hi,↓ZD,ZW,simprocAttr]
  obtain ⟨m,x1,s1,hm,hm2,hE,hC⟩:=its_one hR
  have hsame:(b,RdO l y.s)::(bo,outO op y.vk y.vn)::(y.Hk++(y.Hn++y.G))=itH l b bo op y:=by unfold itH;rw [hpe]
  rw [hsame]
  refine CallEF.one (h1 m hm) hy (by rw [hcs];decide) (fun _=>hns) (by rw [hns];exact hE) ?_
  intro y1 k1 k2 k3 k4 k5
  have hfw:=head_goes hE
  simp (disch:=first | assumption | exact .symm ‹_› | omega) only [↓ZD,ZW,simprocAttr]
  refine LoopL.inv (α:=ItS×Nat) (LsI F ws b bo op N x s') (fun z=>[(0,some (.pointer (some ⟨b,0,none⟩))),(1,some (.string (bs (endOf op)))),(2,some fv)]) (fun z=>itH l b bo op z.1) (fun z=>2 * z.2+(if z.1.s.e=0 then 1 else 0)) (y1,m)
   ⟨k1,fun h0=>?_,by rw [k5,hcs];decide,hm,fun h0=>?_,next_R k2 (by rw [k3,hns]) (fun h0=>by rw [k4 h0,hks]) hC⟩ (by (simp (disch:=first | assumption | exact .symm ‹_› | omega) only [↓ZD,ZW,simprocAttr];try trivial)) (HLe.of (it_wk k1 hbo)) ?_
  ·rw [k2] at h0 ⊢
   have:=(hfw h0).2.1
   rw [k5,hcs]
   simp only [List.length_nil]
   omega
  ·rw [k3,hns];unfold headS;rw [if_neg h0]
  clear hC hE k1 k2 k3 k4 k5 hm hm2 hfw hR hi hsame hy hks hns hcs he hpos hpe
  rintro ⟨y,m⟩ ⟨hy,hc,hc2,hm,hn,hR⟩
  dsimp only at hy hc hc2 hm hn hR ⊢
  by_cases he:y.s.e=0
  ·have hpe:y.p=y.s:=hy.A.ok he
   have hd:(y.s.e==0)=true:=by simpa using he
   have hcc:=hc he
   unfold itH
   rw [hpe]
   simp (disch:=first | assumption | exact .symm ‹_› | omega) only [hFb,hd,↓ZD,ZW,simprocAttr]
   refine stp_call_guard (vs:=[.pointer (some ⟨b,0,none⟩),.string (bs (endOf op))]) (by simp (disch:=first | assumption | exact .symm ‹_› | omega) only [↓ZD,ZW,simprocAttr]) (fun h=>?_) (fun h=>?_)
   ·refine CallE.rd1 ((bo,outO op y.vk y.vn)::(y.Hk++(y.Hn++y.G))) (skip_rd _ (hW.mono le_up) (rdObj_none hFb (it_off hy hbo)) y.s (endOf op)) (by simp) (by intro e he;exact List.mem_cons_of_mem _ he) (it_off hy hbo) ?_
    rcases hR with ⟨hi,rfl,rfl⟩ | ⟨hi,hR,-⟩
    ·simp (disch:=first | assumption | exact .symm ‹_› | omega) only [hi,↓ZD,ZW,simprocAttr]
     exact ⟨{ y with p:=adv y.s,s:=adv y.s },hy.st Agr.rfl' hy.g.adv (fun _=>he),rfl,fun _=>rfl,by show y.css.length≤65540;omega,rfl⟩
    ·simp (disch:=first | assumption | exact .symm ‹_› | omega) only [hi,↓ZD,ZW,simprocAttr]
     refine CallE.rd1 ((bo,outO op y.vk y.vn)::(y.Hk++(y.Hn++y.G))) (must_rd _ (hW.mono le_up) (rdObj_none hFb (it_off hy hbo)) y.s [44]) (by simp) (by intro e he;exact List.mem_cons_of_mem _ he) (it_off hy hbo) ?_
     simp (disch:=first | assumption | exact .symm ‹_› | omega) only [↓ZD,ZW,simprocAttr]
     obtain ⟨m',x1,s1,hm1,hm2,hE,hC⟩:=its_one (hR he)
     have hys:=hy.st (Agr.rfl' (s:=mustS ws y.s [44])) hy.g.must (fun h0=>he)
     have hcm:(mustS ws y.s [44]).e=0→y.css.length≤65537∧(y.css.length:Int)≤(mustS ws y.s [44]).p:=fun h0=>by
      unfold mustS at h0 ⊢
      split at h0
      ·rename_i h3
       rw [if_pos h3]
       have hr:=isS_range h3
       have:=hws.1
       exact ⟨by omega,by show (y.css.length:Int)≤y.s.p+1;omega⟩
      ·exact absurd h0 (failS_e (by decide))
     refine CallEF.one (y:={ y with p:=mustS ws y.s [44],s:=mustS ws y.s [44] }) (h1 m' (by omega)) hys (by show y.css.length≤65540;omega) hn hE ?_
     intro y1 k1 k2 k3 k4 k5
     dsimp only at k3 k4 k5
     have hfw:=head_goes hE
     simp (disch:=first | assumption | exact .symm ‹_› | omega) only [↓ZD,ZW,simprocAttr]
     refine invK.on (y1,m') ⟨k1,fun h0=>?_,by rw [k5];omega,by show m'≤N;omega,fun h0=>?_,next_R k2 k3 k4 hC⟩ ?_ (by (simp (disch:=first | assumption | exact .symm ‹_› | omega) only [↓ZD,ZW,simprocAttr];try trivial)) (HLe.of (it_wk k1 hbo))
     ·rw [k2] at h0 ⊢
      obtain ⟨a1,a2,a3⟩:=hfw h0
      have:=hcm a1
      rw [k5];omega
     ·rw [k3];unfold headS;rw [if_neg h0];exact hn h0
     ·show 2 * m'+(if y1.s.e=0 then 1 else 0) < 2 * m+(if y.s.e=0 then 1 else 0)
      rw [if_pos he]
      by_cases h0:(mustS ws y.s [44]).e=0
      ·have:=hm2 h0;split <;> omega
      ·have:y1.s.e≠0:=by rw [k2];exact fun h3=>h0 (hfw h3).1
       rw [if_neg this];omega
   ·have h':(true:Bool)=false:=h
    cases h'
  ·have hd:(y.p.e==0)=false:=by rw [hy.A.e];simpa using he
   unfold itH
   simp (disch:=first | assumption | exact .symm ‹_› | omega) only [hFb,hd,↓ZD,ZW,simprocAttr]
   refine stp_call_guard (vs:=[.pointer (some ⟨b,0,none⟩),.string (bs (endOf op))]) (by simp (disch:=first | assumption | exact .symm ‹_› | omega) only [↓ZD,ZW,simprocAttr]) (fun h=>?_) (fun h=>?_)
   ·have h':(false:Bool)=true:=h.1
    cases h'
   ·unfold skp
    simp (disch:=first | assumption | exact .symm ‹_› | omega) only [↓ZD,ZW,simprocAttr]
    rcases hR with ⟨hi,-,-⟩ | ⟨-,-,hR⟩
    ·rw [isS_err he] at hi;cases hi
    ·obtain ⟨rfl,rfl⟩:=hR he
     exact ⟨y,hy,rfl,fun h0=>absurd h0 he,by omega,rfl⟩
theorem slot_ne (t:Str):(!(t==[112,114,105,110,99,105,112,97,108])&&!(t==[114,101,115,111,117,114,99,101]))=!decide (t∈slotL):=by
 rw [Bool.eq_iff_iff];simp [slotL]
theorem it_nil {F:Base} {b bo:Nat} {p:St} (hg:Good p):ItOk F b bo ⟨p,p,[],[],[],.slice none 0 0,.slice none 0 0,[],[],[]⟩:=
 ⟨Agr.rfl',hg,.nil,fun c h=>(by cases h),.nil,fun s h=>(by cases h),fun _=>⟨rfl,fun i c t h=>by simp at h⟩,fun e h=>(by cases h),fun e h=>(by cases h),fun e h=>(by cases h),fun e h=>(by cases h),fun e h=>(by cases h),fun e h=>(by cases h),Wk.nil,Nat.le_refl _⟩
set_option maxHeartbeats 2000000 in
theorem primary_prs (F:Base) (hMx:HasMx F) {ws:Ws} (hws:WsOk ws) {l:Value} (hW:HasW F ws l) (N:Nat) (h1:∀ n≤N,Prs F l 25 (G ws n .expr)):Prs F l 126 (G ws (N+1) .prim):=by
 intro F' hFF b p s x s' hFb hA hg hR
 have hW:=hW.mono hFF
 have hMx:=hMx.mono hFF
 refine Does.fin (does_of_svc (args:=[.pointer (some ⟨b,0,none⟩)]) mixed Tryz.func126 low126 (Nat.le_of_ble_eq_true rfl) fun w0 hw0=>?_)
 have hlen:=hW.len
 simp only [*,fu126,↓ZD,ZW,RO,simprocAttr]
 refine NewB.n ?_
 rintro b1 ⟨_,_,_⟩ hF1
 simp only [*,↓ZD,ZW,RO,simprocAttr]
 refine NewB.n ?_
 rintro b2 ⟨_,_,_,_,_⟩ hF2
 simp only [*,↓ZD,ZW,RO,simprocAttr]
 refine CallE.pureH (word_pure (b:=b) (p:=p) _ (hW.mono le_up) (by simp [rdObj,lk, *])) ?_
 simp only [*,wdV,↓ZD,ZW,RO,simprocAttr]
 refine NewB.n ?_
 rintro b3 ⟨_,_,_,_,_,_,_⟩ hF3
 simp only [*,wdV,↓ZD,ZW,RO,simprocAttr]
 by_cases he0:s.e=0
 ·obtain rfl:=hA.ok he0
  have hd:(p.e != 0)=false:=by simpa using he0
  rw [G_succ,if_pos he0] at hR
  simp only [stepG] at hR
  unfold primG wk wtx wn at hR
  have hw1:((wdAt ws p.p).1.1:Int)≠0→IntKind.i64.wrap (p.p+1)=p.p+1:=fun h=>by have:=in_range (ws:=ws) (p:=p.p) (by omega);rw [wrap_i64];omega
  simp only [*,↓ZD,ZW,RO,simprocAttr]
  refine ⟨fun h2=>?_,fun h2=>?_⟩
  ·have hk:=beq_iff_eq.1 h2
   rw [if_pos hk] at hR
   simp only [Option.some.injEq,Prod.mk.injEq] at hR
   obtain ⟨rfl,rfl⟩:=hR
   have hw1:=hw1 (by omega)
   refine CallE.pure (lit_pure F' ⟨2,false,(wdAt ws p.p).1.2.2,[],[],[]⟩) ?_
   simp only [*,xcells,↓ZD,ZW,RO,simprocAttr]
   exact PFin.m (cs:=xcells 1 ⟨2,false,(wdAt ws p.p).1.2.2,[],[],[]⟩ (.slice none 0 0) (.slice none 0 0) [] (.slice none 0 0) (.slice none 0 0)) [] (Agr.rfl' (s:=adv p)) (by simp [adv, *]) ⟨rfl,rfl,rfl,rfl⟩ (fun _=>repP_leaf (i64_lit rfl) (i64_lit rfl) (wdAt_ok hws p.p).2.1) trivial Wk.nil all_nil
  rw [if_neg (beq_eq_false_iff_ne.1 h2)] at hR
  refine ⟨fun h3=>?_,fun h3=>?_⟩
  ·have hk:=beq_iff_eq.1 h3
   rw [if_pos hk] at hR
   simp only [Option.some.injEq,Prod.mk.injEq] at hR
   obtain ⟨rfl,rfl⟩:=hR
   have hw1:=hw1 (by omega)
   refine CallE.pure (lit_pure F' ⟨3,false,0,(wdAt ws p.p).1.2.1,[],[]⟩) ?_
   simp only [*,xcells,↓ZD,ZW,RO,simprocAttr]
   exact PFin.m (cs:=xcells 1 ⟨3,false,0,(wdAt ws p.p).1.2.1,[],[]⟩ (.slice none 0 0) (.slice none 0 0) [] (.slice none 0 0) (.slice none 0 0)) [] (Agr.rfl' (s:=adv p)) (by simp [adv, *]) ⟨rfl,rfl,rfl,rfl⟩ (fun _=>repP_leaf (i64_lit rfl) (i64_lit rfl) (i64_lit rfl)) trivial Wk.nil all_nil
  rw [if_neg (beq_eq_false_iff_ne.1 h3)] at hR
  refine ⟨fun h4=>?_,fun h4=>?_⟩
  ·have hk:=beq_iff_eq.1 h4
   rw [if_pos hk] at hR
   have hw1:=hw1 (by omega)
   have hsb:=slot_ne (wdAt ws p.p).1.2.1
   by_cases hm:(wdAt ws p.p).1.2.1∈slotL
   ·rw [if_pos hm] at hR
    simp only [Option.some.injEq,Prod.mk.injEq] at hR
    obtain ⟨rfl,rfl⟩:=hR
    rw [decide_eq_true hm] at hsb
    simp only [*,↓ZD,ZW,RO,simprocAttr]
    exact PFin.m (cs:=xcells 3 lv0 (.slice none 0 0) (.slice none 0 0) (wdAt ws p.p).1.2.1 (.slice none 0 0) (.slice none 0 0)) [] (Agr.rfl' (s:=adv p)) (by simp [adv, *]) ⟨rfl,rfl,rfl,rfl⟩ (fun _=>repP_leaf (i64_lit rfl) (i64_lit rfl) (i64_lit rfl)) trivial Wk.nil all_nil
   ·rw [if_neg hm] at hR
    simp only [Option.some.injEq,Prod.mk.injEq] at hR
    obtain ⟨rfl,rfl⟩:=hR
    rw [decide_eq_false hm] at hsb
    clear hw1
    simp only [*,↓ZD,ZW,RO,simprocAttr]
    refine CallE.rdq (fail_q hW p 10) rfl (by simp only [*,↓ZD,ZW,RO,simprocAttr]) ?_
    simp only [*,↓ZD,ZW,RO,simprocAttr]
    exact PFin.m (p:=⟨IntKind.i64.wrap ((failS ws p 10).p+1),(failS ws p 10).deep,(failS ws p 10).e,(failS ws p 10).bad⟩) [] (.inr ⟨failS_e (by decide),rfl,rfl⟩) rfl ⟨rfl,rfl,rfl,rfl⟩ (fun h=>absurd h (failS_e (by decide))) trivial Wk.nil all_nil
  rw [if_neg (beq_eq_false_iff_ne.1 h4)] at hR
  refine ⟨fun h5=>?_,fun h5=>?_⟩
  ·have hk:=beq_iff_eq.1 h5
   rw [if_pos hk] at hR
   have hRx:=Option.some.inj hR
   obtain rfl:x=(nameG ws p).1:=by rw [hRx]
   obtain rfl:s'=(nameG ws p).2:=by rw [hRx]
   clear hR hRx hw1
   refine CallG.prs (s':=(nameG ws p).2) (x:=(nameG ws p).1) (fun F2 hE _ hb2=>name_does F2 (hMx.mono hE) hws (hW.mono hE) hb2 he0 hk) rfl (by simp only [*,↓ZD,ZW,RO,simprocAttr]) ?_
   rintro p1 cs1 G1 hA1 hr1 ⟨_,_,⟨_,_,_,_⟩,hx1,_⟩
   simp only [*,↓ZD,ZW,RO,simprocAttr]
   exact PFin.g hA1 rfl ‹_› hr1 ‹_› ‹_›
  rw [if_neg (beq_eq_false_iff_ne.1 h5)] at hR
  refine CallE.rdq (skip_q hW Agr.rfl' [40]) rfl (by simp only [*,↓ZD,ZW,RO,simprocAttr]) ?_
  rcases tf (isS ws p [40]) with hi | hi
  ·rw [hi,if_pos rfl] at hR
   obtain ⟨⟨x1,s1⟩,hR1,hR⟩:=map_some' hR
   simp only [Prod.mk.injEq] at hR
   obtain ⟨rfl,rfl⟩:=hR
   simp only [*,↓ZD,ZW,RO,simprocAttr]
   refine CallE.par ((h1 N (Nat.le_refl _)).mono hFF) (Agr.rfl' (s:=adv p)) hg.adv hR1 rfl (by simp only [*,↓ZD,ZW,RO,simprocAttr]) ?_
   rintro p1 cs1 G1 hA1 hr1 ⟨_,_,⟨_,_,_,_⟩,hx1,_⟩
   simp only [*,↓ZD,ZW,RO,simprocAttr]
   refine NewB.n ?_
   rintro b4 ⟨_,_,_,_,_,_,_,_,_⟩ _
   simp only [*,↓ZD,ZW,RO,simprocAttr]
   refine CallE.rdq (must_q hW p1 [41]) rfl (by simp only [*,↓ZD,ZW,RO,simprocAttr]) ?_
   simp only [*,↓ZD,ZW,RO,simprocAttr]
   exact PFin.g hA1.must rfl ‹_› (fun he=>hr1 (must_e he)) ‹_› ‹_›
  rw [hi,if_neg (by decide)] at hR
  simp only [*,↓ZD,ZW,RO,simprocAttr]
  clear hi
  refine CallE.rdq (skip_q hW Agr.rfl' [91]) rfl (by simp only [*,↓ZD,ZW,RO,simprocAttr]) ?_
  rcases tf (isS ws p [91]) with hi | hi
  ·rw [hi,if_pos rfl] at hR
   simp only [*,↓ZD,ZW,RO,simprocAttr]
   refine NewB.n ?_
   rintro b4 ⟨_,_,_,_,_,_,_,_,_⟩ hF4
   simp only [*,↓ZD,ZW,RO,simprocAttr]
   obtain ⟨F1,hF1e⟩:∃ F1:Base,F1=rdObj F' [(b1,.cells #[.pointer (some ⟨b,0,none⟩)] 82 (0,0))]:=⟨_,rfl⟩
   have up1:∀ b o,F' b=some o→F1 b=some o:=by rw [hF1e];exact le_up
   refine CallE.does (F1:=F1) (itH l b b4 19 ⟨adv p,adv p,[],[],[],.slice none 0 0,.slice none 0 0,[],[],[]⟩) [(b3,.cells #[.int .i64 (wdAt ws p.p).1.1,.string (bs (wdAt ws p.p).1.2.1),.int .i64 (wdAt ws p.p).1.2.2,.int .i64 (wdAt ws p.p).2] 58 (0,0)),(b2,.cells zx.toArray 31 (0,0)),(b1,.cells #[.pointer (some ⟨b,0,none⟩)] 82 (0,0))] (list_does F1 hws (hW.mono up1) ‹b≠b4› (by rw [hF1e];simp [rdObj,lk, *]) (by rw [hF1e];simp [rdObj,lk, *]) 19 N (fun n hn=>one1 F1 (hW.mono up1) ‹b≠b4› (by rw [hF1e];simp [rdObj,lk, *]) (by rw [hF1e];simp [rdObj,lk, *]) (by rw [hF1e];exact rdObj_hd hF1) n ((h1 n hn).mono fun b o h=>up1 b o (hFF b o h))) _ (it_nil hg.adv) rfl rfl rfl he0 (by have:=isS_range hi;show (0:Int)≤p.p+1;omega) hR) ?_ (by simp [itH]) (by simp) (by simp [itH, *]) ?_
   ·rw [hF1e];exact fun _ _ h=>rdObj_sub (by simp [lk, *]) h
   rintro v H' ⟨rfl,y',k1,k2,k3,k4,rfl⟩ d1 d2 d3
   have d2':=fun e he=>d2 e he
   simp only [List.forall_mem_cons,List.not_mem_nil,false_implies,implies_true,and_true] at d2
   have d22:Nb b2 (y'.Hk++(y'.Hn++y'.G)):=.of fun e he=>d2.2.1 e (List.mem_cons_of_mem _ (List.mem_cons_of_mem _ he))
   have d21:Nb b1 (y'.Hk++(y'.Hn++y'.G)):=.of fun e he=>d2.2.2 e (List.mem_cons_of_mem _ (List.mem_cons_of_mem _ he))
   have off:=it_off (op:=19) k1 ‹b≠b4›
   unfold itH
   have ok1:oneCell y'.vk=true:=by obtain ⟨_,_,h,_⟩:=k1.hk.len_le;rw [h];rfl
   have ok2:oneCell y'.vn=true:=by obtain ⟨_,_,h,_⟩:=k1.hn.len_le;rw [h];rfl
   have u2:∀ o,upd (y'.Hk++(y'.Hn++y'.G)) b2 o=y'.Hk++(y'.Hn++y'.G):=fun o=>upd_nb d22
   clear d1 d2 d3 d2'
   simp only [*,↓u2,↓ZD,ZW,RO,simprocAttr]
   subst hF1e
   refine ⟨y'.p,xcells 19 lv0 (.slice none 0 0) (.slice none 0 0) [] y'.vk y'.vn,(b1,.cells #[.pointer (some ⟨b,0,none⟩)] 82 (0,0))::(y'.Hk++(y'.Hn++y'.G)),by rw [← k2];exact k1.A,rfl,⟨rfl,by unfold xcells;simp only [List.all_cons,List.all_nil,ok1,ok2];rfl,rfl,rfl⟩,fun he=>?_,all_cons (Ne.symm ‹b≠b1›) (fun e he=>off e (List.mem_cons_of_mem _ he)),(it_wkx k1).cb d21,by simp,by simp +contextual⟩
   rw [k3 he]
   exact (it_rep k1 (i64_lit rfl) (by rw [k2];exact he) k4).mono fun _ _ h=>rdObj_app (G:=[(b1,.cells #[.pointer (some ⟨b,0,none⟩)] 82 (0,0))]) h
  rw [hi,if_neg (by decide)] at hR
  simp only [*,↓ZD,ZW,RO,simprocAttr]
  clear hi
  refine CallE.rdq (skip_q hW Agr.rfl' [123]) rfl (by simp only [*,↓ZD,ZW,RO,simprocAttr]) ?_
  rcases tf (isS ws p [123]) with hi | hi
  ·rw [hi,if_pos rfl] at hR
   simp only [*,↓ZD,ZW,RO,simprocAttr]
   refine NewB.n ?_
   rintro b4 ⟨_,_,_,_,_,_,_,_,_⟩ hF4
   simp only [*,↓ZD,ZW,RO,simprocAttr]
   obtain ⟨F1,hF1e⟩:∃ F1:Base,F1=rdObj F' [(b1,.cells #[.pointer (some ⟨b,0,none⟩)] 82 (0,0))]:=⟨_,rfl⟩
   have up1:∀ b o,F' b=some o→F1 b=some o:=by rw [hF1e];exact le_up
   refine CallE.does (F1:=F1) (itH l b b4 20 ⟨adv p,adv p,[],[],[],.slice none 0 0,.slice none 0 0,[],[],[]⟩) [(b3,.cells #[.int .i64 (wdAt ws p.p).1.1,.string (bs (wdAt ws p.p).1.2.1),.int .i64 (wdAt ws p.p).1.2.2,.int .i64 (wdAt ws p.p).2] 58 (0,0)),(b2,.cells zx.toArray 31 (0,0)),(b1,.cells #[.pointer (some ⟨b,0,none⟩)] 82 (0,0))] (list_does F1 hws (hW.mono up1) ‹b≠b4› (by rw [hF1e];simp [rdObj,lk, *]) (by rw [hF1e];simp [rdObj,lk, *]) 20 N (fun n hn=>one2 F1 hws (hW.mono up1) ‹b≠b4› (by rw [hF1e];simp [rdObj,lk, *]) (by rw [hF1e];simp [rdObj,lk, *]) (by rw [hF1e];exact rdObj_hd hF1) n ((h1 n hn).mono fun b o h=>up1 b o (hFF b o h))) _ (it_nil hg.adv) rfl rfl rfl he0 (by have:=isS_range hi;show (0:Int)≤p.p+1;omega) hR) ?_ (by simp [itH]) (by simp) (by simp [itH, *]) ?_
   ·rw [hF1e];exact fun _ _ h=>rdObj_sub (by simp [lk, *]) h
   rintro v H' ⟨rfl,y',k1,k2,k3,k4,rfl⟩ d1 d2 d3
   have d2':=fun e he=>d2 e he
   simp only [List.forall_mem_cons,List.not_mem_nil,false_implies,implies_true,and_true] at d2
   have d22:Nb b2 (y'.Hk++(y'.Hn++y'.G)):=.of fun e he=>d2.2.1 e (List.mem_cons_of_mem _ (List.mem_cons_of_mem _ he))
   have d21:Nb b1 (y'.Hk++(y'.Hn++y'.G)):=.of fun e he=>d2.2.2 e (List.mem_cons_of_mem _ (List.mem_cons_of_mem _ he))
   have off:=it_off (op:=20) k1 ‹b≠b4›
   unfold itH
   have ok1:oneCell y'.vk=true:=by obtain ⟨_,_,h,_⟩:=k1.hk.len_le;rw [h];rfl
   have ok2:oneCell y'.vn=true:=by obtain ⟨_,_,h,_⟩:=k1.hn.len_le;rw [h];rfl
   have u2:∀ o,upd (y'.Hk++(y'.Hn++y'.G)) b2 o=y'.Hk++(y'.Hn++y'.G):=fun o=>upd_nb d22
   clear d1 d2 d3 d2'
   simp only [*,↓u2,↓ZD,ZW,RO,simprocAttr]
   subst hF1e
   refine ⟨y'.p,xcells 20 lv0 (.slice none 0 0) (.slice none 0 0) [] y'.vk y'.vn,(b1,.cells #[.pointer (some ⟨b,0,none⟩)] 82 (0,0))::(y'.Hk++(y'.Hn++y'.G)),by rw [← k2];exact k1.A,rfl,⟨rfl,by unfold xcells;simp only [List.all_cons,List.all_nil,ok1,ok2];rfl,rfl,rfl⟩,fun he=>?_,all_cons (Ne.symm ‹b≠b1›) (fun e he=>off e (List.mem_cons_of_mem _ he)),(it_wkx k1).cb d21,by simp,by simp +contextual⟩
   rw [k3 he]
   exact (it_rep k1 (i64_lit rfl) (by rw [k2];exact he) k4).mono fun _ _ h=>rdObj_app (G:=[(b1,.cells #[.pointer (some ⟨b,0,none⟩)] 82 (0,0))]) h
  rw [hi,if_neg (by decide)] at hR
  simp only [*,↓ZD,ZW,RO,simprocAttr]
  clear hi
  simp only [Option.some.injEq,Prod.mk.injEq] at hR
  obtain ⟨rfl,rfl⟩:=hR
  refine CallE.rdq (fail_q hW p 10) rfl (by simp only [*,↓ZD,ZW,RO,simprocAttr]) ?_
  simp only [*,↓ZD,ZW,RO,simprocAttr]
  exact PFin.m [] Agr.rfl' rfl ⟨rfl,rfl,rfl,rfl⟩ (fun h=>absurd h (failS_e (by decide))) trivial Wk.nil all_nil
 ·have hd:(p.e != 0)=true:=by rw [hA.e];simpa using he0
  obtain ⟨rfl,rfl⟩:=G_err he0 _ _ hR
  simp only [*,↓ZD,ZW,RO,simprocAttr]
  exact PFin.m [] hA rfl ⟨rfl,rfl,rfl,rfl⟩ (fun h=>absurd h he0) trivial Wk.nil all_nil
theorem Prs.weak {F:Base} {l:Value} {f:Nat} {R R':St→Option (Ex'×St)} (h:Prs F l f R) (hR:∀ s y,R' s=some y→R s=some y):Prs F l f R':=
 fun F' hF b p s x s' hFb hA hg h'=>h F' hF b p s x s' hFb hA hg (hR s (x,s') h')
theorem prs_none (F:Base) (l:Value) (f:Nat):Prs F l f (fun _=>none):=fun _ _ _ _ _ _ _ _ _ _ h=>by cases h
theorem rel_weak {ws:Ws} {n:Nat} {s:St} {y:Ex'×St} (h:G ws (n+1) .rel s=some y):relG ws (G ws n) s=some y:=by
 rw [G_succ] at h
 split at h
 ·exact h
 ·rename_i he
  unfold relG
  rw [G_at he,Option.bind_some]
  simp only [isS_err he,Bool.false_eq_true,if_false]
  exact h
structure AllP (F:Base) (ws:Ws) (l:Value) (n:Nat):Prop where
 ex:Prs F l 25 (G ws n .expr)
 un:Prs F l 123 (G ws n .unary)
 pr:Prs F l 126 (G ws n .prim)
 me:Prs F l 125 (G ws n .member)
 l3:Prs F l 121 (G ws n (.lev 3))
 l2:Prs F l 115 (G ws n (.lev 2))
 re:Prs F l 106 (G ws n .rel)
 l1:Prs F l 98 (G ws n (.lev 1))
 l0:Prs F l 85 (G ws n (.lev 0))
theorem all0 (F:Base) (hMx:HasMx F) {ws:Ws} (hws:WsOk ws) {l:Value} (hW:HasW F ws l):AllP F ws l 0:=by
 have dn:∀ {nt:NT} {f:Nat},Prs F l f (G ws 1 nt)→Prs F l f (G ws 0 nt):=fun h=>h.weak fun s y hy=>G_mono1 ws 0 _ _ _ hy
 have ex:Prs F l 25 (G ws 0 .expr):=(expr_prs F hW (fun _=>none) (fun _ _ h=>by cases h) (prs_none F l _)).weak fun s y hy=>by
  obtain ⟨he,rfl⟩:=G_zero hy;exact if_neg he
 have un:Prs F l 123 (G ws 0 .unary):=(unary_prs F hW (fun _=>none) (fun _ _ h=>by cases h) (prs_none F l _)).weak fun s y hy=>by
  obtain ⟨he,rfl⟩:=G_zero hy;exact if_neg he
 have z:∀ {P:Nat→Prop},P 0→∀ n≤0,P n:=fun h n hn=>Nat.le_zero.1 hn ▸ h
 have pr:=dn (primary_prs F hMx hws hW 0 (z ex))
 have me:=dn (member_prs F hW 0 (z pr) (z ex))
 have l3:=dn (product_prs F hW 0 (z un))
 have l2:=dn (sum_prs F hW 0 (z l3))
 have re:=dn ((rel_prs F hws hW 0 l2).weak fun s y hy=>rel_weak hy)
 have l1:=dn (and_prs F hW 0 (z re))
 have l0:=dn (or_prs F hW 0 (z l1))
 exact ⟨ex,un,pr,me,l3,l2,re,l1,l0⟩
theorem allP (F:Base) (hMx:HasMx F) {ws:Ws} (hws:WsOk ws) {l:Value} (hW:HasW F ws l):∀ n,AllP F ws l n:=by
 intro n
 induction n using Nat.strongRecOn with
 | _ n ih=>
  cases n with
  | zero=>exact all0 F hMx hws hW
  | succ k=>
   have le:∀ m≤k,AllP F ws l m:=fun m hm=>ih m (by omega)
   have hk:=le k (Nat.le_refl _)
   refine ⟨?_,?_,?_,?_,?_,?_,?_,?_,?_⟩
   ·exact (expr_prs F hW (choiceG ws (G ws k)) (fun s y h=>goes_choice (G_goes ws k) h) (choice_prs F hW k hk.ex hk.l0)).weak fun s y hy=>hy
   ·exact (unary_prs F hW (prefG ws (G ws k)) (fun s y h=>goes_pref (G_goes ws k) h) (prefix_prs F hW k hk.un hk.me)).weak fun s y hy=>hy
   ·exact primary_prs F hMx hws hW k fun m hm=>(le m hm).ex
   ·exact member_prs F hW k (fun m hm=>(le m hm).pr) fun m hm=>(le m hm).ex
   ·exact product_prs F hW k fun m hm=>(le m hm).un
   ·exact sum_prs F hW k fun m hm=>(le m hm).l3
   ·exact (rel_prs F hws hW k hk.l2).weak fun s y hy=>rel_weak hy
   ·exact and_prs F hW k fun m hm=>(le m hm).re
   ·exact or_prs F hW k fun m hm=>(le m hm).l1
def st0 (i:Int):St:=⟨i,0,0,0⟩
theorem st0_good (i:Int):Good (st0 i):=fun _=>⟨Int.le_refl _,by show (0:Int)≤50;decide⟩
def readS (ws:Ws) (i:Int):Ex'×Int×Int×Int:=if (runG ws .expr (st0 i)).2.e=0 then ((runG ws .expr (st0 i)).1,(runG ws .expr (st0 i)).2.p,0,0) else (nilX,0,(runG ws .expr (st0 i)).2.e,(runG ws .expr (st0 i)).2.bad)
def ReadP (F:Base) (R:Ex'×Int×Int×Int) (r:Value) (H':Hp):Prop:=∃ cs,r=.tuple #[.agg cs.toArray,.int .i64 R.2.1,.int .i64 R.2.2.1,.int .i64 R.2.2.2]∧Ok12 cs∧RepP (rdObj F H') cs R.1∧Wk H'
theorem read_does (F:Base) (hMx:HasMx F) {ws:Ws} (hws:WsOk ws) {l:Value} (hW:HasW F ws l) (i:Int):Does Tryz.prog F 15 #[l,.int .i64 i] [] (ReadP F (readS ws i)):=by
 obtain ⟨bw,cap,sp,T,fz,rfl,hFw,-⟩:=id hW
 refine Does.shr (K:=fun r H'=>∃ cs Hx,r=.tuple #[.agg cs.toArray,.int .i64 (readS ws i).2.1,.int .i64 (readS ws i).2.2.1,.int .i64 (readS ws i).2.2.2]∧Ok12 cs∧RepP (rdObj F Hx) cs (readS ws i).1∧Wk Hx∧∀ e∈Hx,e∈H') ?_ fun r H' ⟨cs,Hx,h1,h2,h3,h4,h5⟩=>⟨Hx,h5,cs,h1,h2,h3,h4⟩
 refine does_of_svc (args:=[.slice (some ⟨bw,0,none⟩) ws.length cap,.int .i64 i]) mixed Tryz.func15 low15 (Nat.le_of_ble_eq_true rfl) fun w0 hw0=>?_
 obtain ⟨n,hn⟩:=runG_ex ws .expr (st0 i)
 unfold readS
 generalize runG ws .expr (st0 i)=y at *
 obtain ⟨x,s'⟩:=y
 simp only [*,fu15,↓ZD,ZW,RO,simprocAttr]
 refine NewB.n ?_
 rintro b1 _ _
 simp only [*,↓ZD,ZW,RO,simprocAttr]
 refine NewB.n ?_
 rintro b ⟨_,_,_⟩ _
 simp only [*,↓ZD,ZW,RO,simprocAttr]
 refine CallE.par (s:=st0 i) (p:=st0 i) (allP F hMx hws hW n).ex Agr.rfl' (st0_good i) hn (by simp [st0]) (by simp only [*,↓ZD,ZW,RO,simprocAttr]) ?_
 rintro p1 cs1 G1 hA1 hr1 ⟨_,_,⟨_,_⟩,_,_⟩
 simp only [*,↓ZD,ZW,RO,simprocAttr]
 refine NewB.n ?_
 rintro b3 ⟨_,_,_,_,_⟩ _
 simp only [*,↓ZD,ZW,RO,simprocAttr]
 refine ⟨fun h=>?_,fun h=>?_⟩
 ·have he:s'.e≠0:=by rw [← hA1.e];simpa using h
  rw [if_neg he,← hA1.e,← hA1.bad]
  refine TreeL.open ?_
  simp only [*,↓ZD,ZW,RO,simprocAttr]
  repeat' (first | exact ⟨xcells 0 lv0 (.slice none 0 0) (.slice none 0 0) [] (.slice none 0 0) (.slice none 0 0),[],rfl,⟨rfl,rfl,rfl,rfl⟩,repP_nil,Wk.nil,all_nil⟩ | apply And.intro)
 ·have he:s'.e=0:=by rw [← hA1.e];simpa using h
  obtain rfl:=hA1.ok he
  rw [if_pos he]
  refine TreeL.open ?_
  simp only [*,↓ZD,ZW,RO,simprocAttr]
  repeat' (first | exact ⟨cs1,G1,rfl,‹_›,hr1 he,‹_›,by simp +contextual⟩ | apply And.intro)
def uidR (ws:Ws) (i:Int):(Str×Str)×Int×Int×Int:=if (uidS ws (st0 i)).2.e=0 then ((uidS ws (st0 i)).1,(uidS ws (st0 i)).2.p,0,0) else (([],[]),0,(uidS ws (st0 i)).2.e,(uidS ws (st0 i)).2.bad)
theorem uid_pure (F:Base) {ws:Ws} (hws:WsOk ws) {l:Value} (hW:HasW F ws l) (i:Int):PureV Tryz.prog F 92 #[l,.int .i64 i] (.tuple #[.agg #[.string (bs (uidR ws i).1.1),.string (bs (uidR ws i).1.2)],.int .i64 (uidR ws i).2.1,.int .i64 (uidR ws i).2.2.1,.int .i64 (uidR ws i).2.2.2]):=by
 obtain ⟨bw,cap,sp,T,fz,rfl,hFw,-⟩:=id hW
 refine pureV_of_svc (args:=[.slice (some ⟨bw,0,none⟩) ws.length cap,.int .i64 i]) mixed Tryz.func92 low92 (Nat.le_of_ble_eq_true rfl) fun w0=>?_
 unfold uidR
 simp only [*,fu92,↓ZD,ZW,RO,simprocAttr]
 refine NewB.n ?_
 rintro b1 _ _
 simp only [*,↓ZD,ZW,RO,simprocAttr]
 refine NewB.n ?_
 rintro b ⟨_,_,_⟩ _
 simp only [*,↓ZD,ZW,RO,simprocAttr]
 refine CallE.rdq (p:=st0 i) (uid_q hws hW (st0 i)) (by simp [st0]) (by simp only [*,↓ZD,ZW,RO,simprocAttr]) ?_
 simp only [*,↓ZD,ZW,RO,simprocAttr]
 refine NewB.n ?_
 rintro b3 ⟨_,_,_,_,_⟩ _
 simp only [*,↓ZD,ZW,RO,simprocAttr]
 refine ⟨fun h=>?_,fun h=>?_⟩
 ·have he:(uidS ws (st0 i)).2.e≠0:=by simpa using h
  rw [if_neg he]
  refine TreeL.open ?_
  simp only [*,↓ZD,ZW,RO,simprocAttr]
 ·have he:(uidS ws (st0 i)).2.e=0:=by simpa using h
  rw [if_pos he]
  refine TreeL.open ?_
  simp only [*,↓ZD,ZW,RO,simprocAttr]
theorem stepU_pos (s:List UInt8):1≤(stepU s).2:=by
 unfold stepU
 split
 ·split <;> simp
 ·simp
theorem unqL_le:∀ (n:Nat) (s t:List UInt8),unqL n s=some t→t.length≤s.length
 | n,[],t,h=>by
  cases n <;> (rw [unqL] at h;cases h;simp)
 | 0,c::r,t,h=>by rw [unqL] at h;cases h
 | n+1,c::r,t,h=>by
  rw [unqL] at h
  split at h
  ·obtain ⟨u,hu,rfl⟩:=Option.map_eq_some_iff.1 h
   have h1:=unqL_le n _ u hu
   have h2:=stepU_pos (c::r)
   rw [List.length_drop] at h1
   simp only [List.length_cons] at h1 ⊢
   omega
  ·cases h
theorem unquote_le {s t:List UInt8} (h:unquote s=some t):t.length≤s.length:=by
 unfold unquote at h
 split at h
 ·cases h
 ·have:=unqL_le _ _ _ h
  rw [List.length_drop,List.length_take] at this
  omega
theorem qT_le (s:List UInt8):(qX s).1.length≤s.length:=by
 unfold qX
 split
 ·simp
 ·split
  ·simp
  ·rename_i h
   have:=unquote_le h
   rw [List.length_take] at this
   simp only
   omega
theorem twos_ok:∀ m∈marksL,m.length≤2:=by decide
theorem markX_le (s:List UInt8):(markX s).length≤2:=by
 unfold markX
 cases h:marksL.find? fun m=>Go.Lib.hasPrefix s m with
 | none=>simp
 | some m=>exact twos_ok m (List.mem_of_find?_eq_some h)
theorem takeWhile_le' (p:UInt8→Bool) (s:List UInt8):(s.takeWhile p).length≤s.length:=by
 induction s with
 | nil=>simp
 | cons c r ih=>rw [List.takeWhile_cons];split <;> simp <;> omega
theorem isLD_124 {c:UInt8} (h:isLD c=true):c≠124:=by
 rintro rfl;revert h;decide
theorem takeWhile_all' {p:UInt8→Bool}:∀ {s:List UInt8} {c:UInt8},c∈s.takeWhile p→p c=true
 | [],c,h=>by cases h
 | x::r,c,h=>by
  rw [List.takeWhile_cons] at h
  split at h
  ·rcases List.mem_cons.1 h with rfl | h
   ·assumption
   ·exact takeWhile_all' h
  ·cases h
theorem nameX_124 (s:List UInt8):∀ c∈nameX s,c≠124:=by
 cases s with
 | nil=>intro c h;cases h
 | cons x r=>
  rw [nameX]
  split
  ·rename_i hx
   intro c h
   rcases List.mem_cons.1 h with rfl | h
   ·exact isLD_124 (by unfold isLD;rw [hx];rfl)
   ·exact isLD_124 (takeWhile_all' h)
  ·intro c h;cases h
theorem readD_i64 (l:List UInt8):I64 (readD false l).1:=by
 unfold readD
 split
 ·unfold I64;decide
 ·rw [if_neg (by decide)]
  unfold fitR
  split
  ·assumption
  ·exact ⟨by decide,by decide⟩
theorem tok_ok {s:List UInt8} {w:Wd} {m:Nat} (hs:s.length≤65536) (h:tok s=.ok (w,m)):w.2.1.length≤65536∧I64 w.2.2∧(w.1=1→∀ c∈w.2.1,c≠124):=by
 unfold tok at h
 split at h
 ·cases h
 ·split at h
  ·cases h
  ·injection h with h
   injection h with h _
   subst h
   have h0:I64 0:=by unfold I64;decide
   unfold oneX
   split
   ·exact ⟨Nat.le_trans (nameX_le s) hs,h0,fun _=>nameX_124 s⟩
   ·split
    ·exact ⟨Nat.le_trans (takeWhile_le' _ s) hs,readD_i64 _,fun h=>by simp at h⟩
    ·split
     ·exact ⟨Nat.le_trans (qT_le s) hs,h0,fun h=>by simp at h⟩
     ·split
      ·split
       ·exact ⟨by simp,h0,fun h=>by simp at h⟩
       ·refine ⟨Nat.le_trans (nameX_le _) ?_,h0,fun h=>by simp at h⟩
        rw [List.length_drop];omega
      ·split
       ·exact ⟨by decide,h0,fun h=>by simp at h⟩
       ·split
        ·exact ⟨by simp,h0,fun h=>by simp at h⟩
        ·exact ⟨Nat.le_trans (markX_le s) (by decide),h0,fun h=>by simp at h⟩
theorem w1_ok:∀ (n a:Nat) (s:List UInt8) (l:List (Wd×Nat)),s.length≤65536→w1 n a s=.ok l→l.length≤s.length+1∧∀ w∈l,w.1.2.1.length≤65536∧I64 w.1.2.2∧(w.1.1=1→∀ c∈w.1.2.1,c≠124)
 | 0,_,_,l,_,h=>by
  rw [w1] at h;injection h with h;subst h
  exact ⟨by simp,fun w hw=>by cases hw⟩
 | n + 1,a,s,l,hs,h=>by
  rw [w1] at h
  split at h
  ·injection h with h;subst h
   refine ⟨by simp,fun w hw=>?_⟩
   rw [List.mem_singleton.1 hw]
   exact ⟨by simp,(show I64 0 from ⟨by decide,by decide⟩),fun h=>by simp at h⟩
  ·rename_i hne
   split at h
   ·cases h
   ·rename_i w m hk
    split at h
    ·cases h
    ·rename_i l' hl
     injection h with h;subst h
     have h1:=tok_len hk
     have h2:(s.drop (m+blankN (s.drop m))).length≤s.length - 1:=by rw [List.length_drop];omega
     have hpos:0 < s.length:=List.length_pos_iff.2 hne
     obtain ⟨i1,i2⟩:=w1_ok n _ _ l' (by omega) hl
     refine ⟨by rw [List.length_cons];omega,fun x hx=>?_⟩
     rcases List.mem_cons.1 hx with rfl | hx
     ·exact tok_ok hs hk
     ·exact i2 x hx
theorem words_ok {s:List UInt8} {l:List (Wd×Nat)} (hs:s.length≤65536) (h:words s=.ok l):WsOk l:=by
 have hd:(s.drop (blankN s)).length≤s.length:=by rw [List.length_drop];omega
 obtain ⟨h1,h2⟩:=w1_ok _ _ _ l (Nat.le_trans hd hs) h
 exact ⟨by omega,h2⟩
theorem words_ne' {s:List UInt8} {l:List (Wd×Nat)} (h:words s=.ok l):l≠[]:=by
 rintro rfl
 unfold words at h
 rw [w1] at h
 split at h
 ·cases h
 ·split at h
  ·cases h
  ·split at h
   ·cases h
   ·cases h
end Go.Proofs.YtoelfmmfjebabaaGreatDoor
namespace Go.Proofs.YtoelfmmfjebabaaGreatDoor
open Go Go.Eng
set_option maxHeartbeats 1000000
set_option linter.unusedSimpArgs false
set_option linter.unusedVariables false
set_option linter.unusedSectionVars false
set_option maxRecDepth 20000
mutual
def depX:Ex'→Nat
 | .mk _ _ _ kids _=>depXL kids+1
def depXL:List Ex'→Nat
 | []=>0
 | x::l=>max (depX x) (depXL l)
end
theorem depXL_app:∀ l m,depXL (l++m)=max (depXL l) (depXL m)
 | [],m=>by simp [depXL]
 | x::l,m=>by rw [List.cons_append,depXL,depXL,depXL_app,Nat.max_assoc]
theorem dep_two (op:Int) (a b:Ex'):depX (twoX op a b)=max (depX a) (depX b)+1:=by simp [twoX,depX,depXL]
theorem dep_one (op:Int) (nm:Str) (a:Ex'):depX (oneX' op nm a)=depX a+1:=by simp [oneX',depX,depXL]
theorem dep_lit (v:LV):depX (litX v)=1:=by simp [litX,depX,depXL]
theorem dep_leaf (op:Int) (v:LV) (nm:Str) (ns:List Str):depX (.mk op v nm [] ns)=1:=by simp [depX,depXL]
theorem dep_if (op:Int) (v:LV) (nm:Str) (a b c:Ex'):depX (.mk op v nm [a,b,c] [])=max (depX a) (max (depX b) (depX c))+1:=by simp [depX,depXL]
theorem dep_its (op:Int) (v:LV) (nm:Str) (ks:List Ex') (a:Ex') (ns:List Str):depX (.mk op v nm (ks++[a]) ns)=max (depXL ks) (depX a)+1:=by simp [depX,depXL,depXL_app]
def depN:NT→Nat
 | .rows _ x=>depX x
 | .mems x=>depX x
 | .its _ _ ks=>depXL ks+1
 | _=>0
def Dp (c:Nat) (s:St) (y:Ex'×St):Prop:=y.2.e=0→(depX y.1:Int)≤c+2 * (y.2.p - s.p)
def GoesDp (g:NT→St→Option (Ex'×St)):Prop:=∀ nt s y,g nt s=some y→Dp (depN nt) s y
theorem adv_p (s:St):(adv s).p=s.p+1:=rfl
section
variable {ws:Ws} {g:NT→St→Option (Ex'×St)} (hf:GoesOn g) (hd:GoesDp g)
include hf hd
theorem dp_choice {s:St} {y:Ex'×St} (h:choiceG ws g s=some y):Dp 0 s y:=by
 unfold choiceG at h
 split at h
 ·obtain ⟨a,h1,h⟩:=bind_some h
  obtain ⟨b,h2,h⟩:=bind_some h
  obtain ⟨c,h3,rfl⟩:=map_some' h
  intro he
  have d3:=hd _ _ _ h3 he
  obtain ⟨e3,p3,-⟩:=hf _ _ _ h3 he
  obtain ⟨e3',p3',-⟩:=Fwd.must e3
  have d2:=hd _ _ _ h2 e3'
  obtain ⟨e2,p2,-⟩:=hf _ _ _ h2 e3'
  obtain ⟨e2',p2',-⟩:=Fwd.must e2
  have d1:=hd _ _ _ h1 e2'
  obtain ⟨e1,p1,-⟩:=hf _ _ _ h1 e2'
  rw [adv_p] at p1 d1
  simp only [dep_if,depN] at *
  omega
 ·exact hd _ _ _ h
theorem dp_rel {s:St} {y:Ex'×St} (h:relG ws g s=some y):Dp 0 s y:=by
 obtain ⟨a,h1,h⟩:=bind_some h
 have two:∀ b,g (.lev 2) (adv a.2)=some b→b.2.e=0→(depX a.1:Int)+2≤2 * (b.2.p - s.p)∧(depX b.1:Int)+2≤2 * (b.2.p - s.p):=fun b h2 he=>by
  have d2:=hd _ _ _ h2 he
  obtain ⟨e2,p2,-⟩:=hf _ _ _ h2 he
  have d1:=hd _ _ _ h1 e2
  obtain ⟨e1,p1,-⟩:=hf _ _ _ h1 e2
  rw [adv_p] at p2 d2
  simp only [depN] at *
  omega
 have one:∀ t:St,Fwd 1 (adv a.2) t→t.e=0→(depX a.1:Int)+1≤2 * (t.p - s.p):=fun t ht he=>by
  obtain ⟨e2,p2,-⟩:=ht he
  have d1:=hd _ _ _ h1 e2
  rw [adv_p] at p2
  simp only [depN] at *
  omega
 iterate 7 (split at h;(obtain ⟨b,h2,rfl⟩:=map_some' h;intro he;have:=two b h2 he;simp only [dep_two,dep_one];omega))
 split at h
 ·simp only [Option.some.injEq] at h;subst h
  intro he
  have:=one _ Fwd.take he
  simp only [dep_one];omega
 split at h
 ·simp only [Option.some.injEq] at h;subst h
  intro he
  have:=one _ Fwd.path he
  simp only [dep_one];omega
 simp only [Option.some.injEq] at h;subst h;exact hd _ _ _ h1
theorem dp_pref {s:St} {y:Ex'×St} (h:prefG ws g s=some y):Dp 0 s y:=by
 have go:∀ op b,g .unary (adv s)=some b→Dp 0 s (oneX' op [] b.1,b.2):=fun op b h2 he=>by
  have d2:=hd _ _ _ h2 he
  rw [adv_p] at d2
  simp only [dep_one,depN] at *
  omega
 unfold prefG at h
 split at h
 ·obtain ⟨b,h2,rfl⟩:=map_some' h;exact go _ b h2
 ·split at h
  ·obtain ⟨b,h2,rfl⟩:=map_some' h;exact go _ b h2
  ·exact hd _ _ _ h
theorem dp_mems {x:Ex'} {s:St} {y:Ex'×St} (h:memsG ws g x s=some y):Dp (depX x) s y:=by
 unfold memsG at h
 split at h
 ·intro he
  have d1:=hd _ _ _ h he
  obtain ⟨e1,p1,-⟩:=hf _ _ _ h he
  obtain ⟨e2,p2,-⟩:=Fwd.must e1
  obtain ⟨e3,p3,-⟩:=Fwd.take e2
  rw [adv_p] at p3
  simp only [dep_one,depN] at *
  omega
 ·split at h
  ·simp only at h
   split at h
   ·intro he
    have d1:=hd _ _ _ h he
    obtain ⟨e1,p1,-⟩:=hf _ _ _ h he
    obtain ⟨e3,p3,-⟩:=Fwd.take e1
    rw [adv_p] at p3
    simp only [dep_one,depN] at *
    omega
   ·split at h
    ·simp only [Option.some.injEq] at h;subst h;intro he;exact absurd he (failS_e (by decide))
    ·obtain ⟨b,h2,h⟩:=bind_some h
     intro he
     have d1:=hd _ _ _ h he
     obtain ⟨e1,p1,-⟩:=hf _ _ _ h he
     obtain ⟨e2,p2,-⟩:=Fwd.must e1
     have d2:=hd _ _ _ h2 e2
     obtain ⟨e3,p3,-⟩:=hf _ _ _ h2 e2
     rw [adv_p] at p3 d2
     obtain ⟨e4,p4,-⟩:=Fwd.take (ws:=ws) (s:=adv s) (k:=1) e3
     rw [adv_p] at p4
     simp only [dep_two,depN] at *
     omega
  ·simp only [Option.some.injEq] at h;subst h
   intro he
   show (depX x:Int)≤depX x+2 * (s.p - s.p)
   omega
theorem dp_its {op:Int} {ns:List Str} {ks:List Ex'} {s:St} {y:Ex'×St} (h:itsG ws g op ns ks s=some y):Dp (depXL ks+1) s y:=by
 unfold itsG at h
 obtain ⟨a,h1,h⟩:=bind_some h
 split at h
 ·simp only [Option.some.injEq] at h;subst h
  intro he
  have d1:=hd _ _ _ h1 he
  obtain ⟨e1,p1,-⟩:=hf _ _ _ h1 he
  obtain ⟨e2,p2,-⟩:=Fwd.head e1
  simp only [dep_its,depN,adv_p] at *
  omega
 ·intro he
  have d0:=hd _ _ _ h he
  obtain ⟨e0,p0,-⟩:=hf _ _ _ h he
  obtain ⟨e3,p3,-⟩:=Fwd.must e0
  have d1:=hd _ _ _ h1 e3
  obtain ⟨e1,p1,-⟩:=hf _ _ _ h1 e3
  obtain ⟨e2,p2,-⟩:=Fwd.head e1
  simp only [depN,depXL_app,depXL,Nat.max_zero] at *
  omega
theorem dp_items {op:Int} {s:St} {y:Ex'×St} (h:itemsG ws g op s=some y):Dp 1 s y:=by
 unfold itemsG at h
 split at h
 ·simp only [Option.some.injEq] at h;subst h
  intro he
  simp only [dep_leaf,adv_p]
  omega
 ·have:=hd _ _ _ h
  simpa [depN,depXL] using this
theorem dp_prim {s:St} {y:Ex'×St} (h:primG ws g s=some y):Dp 0 s y:=by
 have lf:∀ (x:Ex'),depX x=1→∀ t,Fwd 1 s t→Dp 0 s (x,t):=fun x hx t ht he=>by
  obtain ⟨-,p1,-⟩:=ht he
  simp only [hx] at *
  omega
 have bad:Dp 0 s (nilX,failS ws s 10):=fun he=>absurd he (failS_e (by decide))
 unfold primG at h
 split at h
 ·simp only [Option.some.injEq] at h;subst h;exact lf _ (dep_lit _) _ Fwd.adv
 split at h
 ·simp only [Option.some.injEq] at h;subst h;exact lf _ (dep_lit _) _ Fwd.adv
 split at h
 ·split at h
  ·simp only [Option.some.injEq] at h;subst h;exact lf _ (dep_leaf _ _ _ _) _ Fwd.adv
  ·simp only [Option.some.injEq] at h;subst h;exact bad
 split at h
 ·simp only [Option.some.injEq] at h;subst h
  unfold nameG
  split
  ·exact lf _ (dep_lit _) _ Fwd.adv
  ·split
   ·exact lf _ (dep_lit _) _ Fwd.uid
   ·split
    ·exact lf _ (dep_leaf _ _ _ _) _ Fwd.adv
    ·exact bad
 split at h
 ·obtain ⟨b,h2,rfl⟩:=map_some' h
  intro he
  obtain ⟨e1,p1,-⟩:=Fwd.must he
  have d:=hd _ _ _ h2 e1
  rw [adv_p] at d
  simp only [depN] at *
  omega
 split at h
 ·intro he
  have d:=dp_items hf hd h he
  rw [adv_p] at d
  omega
 split at h
 ·intro he
  have d:=dp_items hf hd h he
  rw [adv_p] at d
  omega
 ·simp only [Option.some.injEq] at h;subst h;exact bad
theorem dp_step {nt:NT} {s:St} {y:Ex'×St} (h:stepG ws g nt s=some y):Dp (depN nt) s y:=by
 cases nt with
 | expr=>
  simp only [stepG] at h
  split at h
  ·simp only [Option.some.injEq] at h;subst h;intro he;exact absurd he (failS_e (by decide))
  ·obtain ⟨b,h2,rfl⟩:=map_some' h;exact fun he=>(dp_choice hf hd h2:Dp 0 (inn s) b) he
 | lev k=>
  obtain ⟨a,h1,h⟩:=bind_some h
  intro he
  have d2:=hd _ _ _ h he
  obtain ⟨e2,p2,-⟩:=hf _ _ _ h he
  have d1:=hd _ _ _ h1 e2
  have e0:depN (lowN k)=0:=by unfold lowN;split <;> rfl
  simp only [depN,e0] at *
  omega
 | rows k x=>
  simp only [stepG] at h
  split at h
  ·simp only [Option.some.injEq] at h;subst h
   intro he
   show (depX x:Int)≤depX x+2 * (s.p - s.p)
   omega
  ·obtain ⟨a,h1,h⟩:=bind_some h
   intro he
   have d2:=hd _ _ _ h he
   obtain ⟨e2,p2,-⟩:=hf _ _ _ h he
   have d1:=hd _ _ _ h1 e2
   obtain ⟨e1,p1,-⟩:=hf _ _ _ h1 e2
   have e0:depN (lowN k)=0:=by unfold lowN;split <;> rfl
   rw [adv_p] at p1 d1
   simp only [depN,e0,dep_two] at *
   omega
 | rel=>exact dp_rel hf hd h
 | unary=>
  simp only [stepG] at h
  split at h
  ·simp only [Option.some.injEq] at h;subst h;intro he;exact absurd he (failS_e (by decide))
  ·obtain ⟨b,h2,rfl⟩:=map_some' h;exact fun he=>(dp_pref hf hd h2:Dp 0 (inn s) b) he
 | member=>
  obtain ⟨a,h1,h⟩:=bind_some h
  intro he
  have d2:=hd _ _ _ h he
  obtain ⟨e2,p2,-⟩:=hf _ _ _ h he
  have d1:=hd _ _ _ h1 e2
  simp only [depN] at *
  omega
 | mems x=>exact dp_mems hf hd h
 | prim=>exact dp_prim hf hd h
 | its op ns ks=>exact dp_its hf hd h
end
theorem G_dp (ws:Ws):∀ n,GoesDp (G ws n)
 | 0=>fun _ _ _ h=>by obtain ⟨h0,rfl⟩:=G_zero h;exact fun he=>absurd he h0
 | n+1=>fun nt s y h=>by
  rw [G_succ] at h
  split at h
  ·exact dp_step (G_goes ws n) (G_dp ws n) h
  ·rename_i h0
   simp only [Option.some.injEq] at h;subst h;exact fun he=>absurd he h0
theorem take_snoc {α:Type} {l:List α} {i:Nat} {x:α} (h:l[i]?=some x):l.take (i+1)=l.take i++[x]:=by
 rw [List.take_add_one,h];rfl
theorem getX {l:List Ex'} {i:Nat} (h:i < l.length):l[i]?=some (l.getD i nilX):=getDs nilX h
theorem depXL_snoc {l:List Ex'} {i:Nat} {x:Ex'} (h:l[i]?=some x):depXL (l.take (i+1))=max (depXL (l.take i)) (depX x):=by
 rw [take_snoc h,depXL_app];simp [depXL]
theorem depXL_mem {l:List Ex'} {i:Nat} {x:Ex'} (h:l[i]?=some x):depX x≤depXL l:=by
 have e:depXL l=max (depXL (l.take (i+1))) (depXL (l.drop (i+1))):=by rw [← depXL_app,List.take_append_drop]
 rw [e,depXL_snoc h];omega
theorem depXL_take {l:List Ex'} (i:Nat):depXL (l.take i)≤depXL l:=by
 have e:depXL l=max (depXL (l.take i)) (depXL (l.drop i)):=by rw [← depXL_app,List.take_append_drop]
 omega
theorem dep_pure (F:Base) {cs:List Value} {e:Ex'} (h:RepX F cs e):depX e≤1000000000→PureV Tryz.prog F 16 #[.agg cs.toArray] (.int .i64 (depX e)):=by
 induction h with
 | mk op v u1 u2 nm a1 c1 kids g1 vn names hu hop hk hn hl1 hc1 h1 r1 hN i1=>
  intro hw
  obtain ⟨an,cn,rfl,hcn,-⟩:=hN
  rw [depX] at hw
  refine pureV_of_svc mixed Tryz.func16 low16 (Nat.le_of_ble_eq_true rfl) (fun w0=>?_)
  unfold xcells
  simp (disch:=first | assumption | exact .symm ‹_› | omega) only [fu16,↓ZD,ZW,simprocAttr]
  refine NewB.of fun b1 hb1 hF1=>?_
  rw [depX]
  simp (disch:=first | assumption | exact .symm ‹_› | omega) only [hF1,↓ZD,ZW,simprocAttr]
  refine LoopL.inv (α:=Nat) (fun i=>i≤kids.length)
   (fun i=>[(1,some (.pointer (some ⟨b1,0,none⟩))),(3,some (.int .i64 (depXL (kids.take i)))),(7,some (.slice a1 kids.length c1)),(8,some (.int .i64 kids.length)),(9,some (.int .i64 i))])
   (fun i=>[]) (fun i=>kids.length - i) 0 (Nat.zero_le _) ?_ ?_ ?_
  ·simp only [Le_nil,Le_cons,List.take_zero,depXL]
   simp (disch:=first | assumption | exact .symm ‹_› | omega) only [↓ZD,ZW,simprocAttr]
   first | done | rfl
  ·trivial
  ·rintro i hi
   have hdt:=depXL_take (l:=kids) i
   by_cases hlt:i < kids.length
   ·have hd:decide ((i:Int) < (kids.length:Int))=true:=by simp;omega
    have gx:=getX hlt
    have hm2:=depXL_mem gx
    have hc:=i1 i _ gx (by omega)
    obtain ⟨q1,q2,q3,q4,q5,q6,q7,q8,q9,q10,q11,q12,q13,q14,q15,q16,q17,q18,q19,q20,e1⟩:=(r1 i _ gx).form
    obtain ⟨ba,oa,rfl,hla⟩:=(h1 i _ gx).ldn
    rw [e1] at hc hla
    have hs:=depXL_snoc gx
    simp (disch:=first | assumption | exact .symm ‹_› | omega) only [hF1,hd,↓ZD,ZW,simprocAttr]
    refine conj.of (by omega) ?_
    simp (disch:=first | assumption | exact .symm ‹_› | omega) only [hF1,hd,Int.toNat_natCast,↓hla,↓ZD,ZW,simprocAttr]
    refine NewB.of fun b2 hb2 hF2=>?_
    simp (disch:=first | assumption | exact .symm ‹_› | omega) only [hF2,↓ZD,ZW,simprocAttr]
    refine CallE.pure hc ?_
    simp (disch:=first | assumption | exact .symm ‹_› | omega) only [hF2,↓ZD,ZW,simprocAttr]
    refine invK.on (i+1) (by omega) (by omega) ?_ trivial
    simp only [Le_nil,Le_cons,hs]
    simp (disch:=first | assumption | exact .symm ‹_› | omega) only [↓ZD,ZW,simprocAttr]
    refine ⟨?_,rfl⟩
    congr 2
    split <;> omega
   ·have hd:decide ((kids.length:Int) < (kids.length:Int))=false:=by simp
    obtain rfl:i=kids.length:=by omega
    rw [List.take_length]
    simp (disch:=first | assumption | exact .symm ‹_› | omega) only [hF1,hd,↓ZD,ZW,simprocAttr]
    rfl
def WsEnd (ws:Ws):Prop:=∀ i:Nat,i < ws.length→(ws.getD i ((0,[],0),0)).1.1≠0→i+1 < ws.length
def InS (ws:Ws) (s:St):Prop:=0≤s.p∧s.p < ws.length
def Inn (ws:Ws) (s t:St):Prop:=t.e=0→s.e=0∧(InS ws s→InS ws t)
theorem Inn.refl {ws:Ws} {s:St}:Inn ws s s:=fun h=>⟨h,id⟩
theorem Inn.trans {ws:Ws} {s t u:St} (h1:Inn ws s t) (h2:Inn ws t u):Inn ws s u:=fun h=>by
 obtain ⟨a,b⟩:=h2 h
 obtain ⟨c,d⟩:=h1 a
 exact ⟨c,fun x=>b (d x)⟩
theorem Inn.fail {ws:Ws} {s:St} {e:Int} (he:e≠0):Inn ws s (failS ws s e):=fun h=>absurd h (failS_e he)
section
variable {ws:Ws} (hE:WsEnd ws)
include hE
theorem in_next {s:St} (h:InS ws s) (hk:wk ws s≠0):InS ws (adv s):=by
 obtain ⟨h1,h2⟩:=h
 obtain ⟨i,hi⟩:∃ i:Nat,s.p=i:=⟨s.p.toNat,by omega⟩
 have hlt:i < ws.length:=by omega
 unfold wk at hk
 rw [hi,wdAt_in hlt] at hk
 have:=hE i hlt (by omega)
 exact ⟨by show 0≤s.p+1;omega,by show s.p+1 < ws.length;omega⟩
theorem Inn.adv {s:St} (hk:wk ws s≠0):Inn ws s (adv s):=fun h=>⟨h,fun x=>in_next hE x hk⟩
theorem is_wk {s:St} {t:Str} (h:isS ws s t=true):wk ws s≠0:=by
 unfold isS at h
 simp only [Bool.and_eq_true,Bool.or_eq_true,beq_iff_eq] at h
 omega
theorem Inn.is {s:St} {t:Str} (h:isS ws s t=true):Inn ws s (Go.Proofs.YtoelfmmfjebabaaGreatDoor.adv s):=Inn.adv hE (is_wk hE h)
theorem Inn.must {s:St} {t:Str}:Inn ws s (mustS ws s t):=by
 unfold mustS;split
 ·rename_i h;exact Inn.is hE h
 ·exact Inn.fail (by decide)
theorem Inn.take {s:St} {k:Int} (hk:k≠0):Inn ws s (takeS ws s k).2:=by
 unfold takeS;split
 ·rename_i h;exact Inn.adv hE (by rw [h.2];exact hk)
 ·exact Inn.fail (by decide)
theorem pathL_in:∀ (n j:Nat),ws.length - j≤n→j < ws.length→j+(pathL (ws.drop j)).2 < ws.length
 | 0,j,hn,hj=>by omega
 | n+1,j,hn,hj=>by
  rw [List.drop_eq_getElem_cons hj]
  by_cases h2:j+1 < ws.length
  ·rw [List.drop_eq_getElem_cons h2,pathL]
   split
   ·rename_i hm
    rw [Bool.and_eq_true,beq_iff_eq] at hm
    have h3:=hE (j+1) h2 (by rw [List.getD_eq_getElem?_getD,List.getElem?_eq_getElem h2];show (ws[j+1]).1.1≠0;omega)
    have:=pathL_in n (j+1+1) (by omega) (by omega)
    simp only
    omega
   ·exact hj
  ·rw [List.drop_eq_nil_of_le (by omega)]
   exact hj
theorem Inn.path {s:St}:Inn ws s (pathS ws s).2:=by
 unfold pathS pathT
 have h1:Inn ws s (if wtx ws s∈ownL then failS ws s 10 else s):=by split;exact Inn.fail (by decide);exact Inn.refl
 generalize (if wtx ws s∈ownL then failS ws s 10 else s)=u at *
 have h2:=h1.trans (Inn.take hE (k:=1) (by decide))
 split
 ·intro h
  obtain ⟨a,b⟩:=h2 ‹_›
  refine ⟨a,fun x=>?_⟩
  obtain ⟨c,d⟩:=b x
  have:=pathL_in hE (ws.length - (takeS ws u 1).2.p.toNat) (takeS ws u 1).2.p.toNat (Nat.le_refl _) (by omega)
  exact ⟨by simp only;omega,by simp only;omega⟩
 ·exact h2
theorem Inn.uid {s:St}:Inn ws s (uidS ws s).2:=by
 unfold uidS
 exact ((Inn.path hE).trans (Inn.must hE)).trans (Inn.take hE (by decide))
theorem Inn.head {op:Int} {ns:List Str} {s:St}:Inn ws s (headS ws op ns s).2:=by
 unfold headS;split
 ·exact (Inn.take hE (by split <;> decide)).trans (Inn.must hE)
 ·exact Inn.refl
theorem Inn.name {s:St} (hk:wk ws s=1):Inn ws s (nameG ws s).2:=by
 have ha:Inn ws s (Go.Proofs.YtoelfmmfjebabaaGreatDoor.adv s):=Inn.adv hE (by rw [hk];decide)
 unfold nameG
 split
 ·exact ha
 ·split
  ·exact Inn.uid hE
  ·split
   ·exact ha
   ·exact Inn.fail (by decide)
end
def GoesI (ws:Ws) (g:NT→St→Option (Ex'×St)):Prop:=∀ nt s y,g nt s=some y→Inn ws s y.2
section
variable {ws:Ws} {g:NT→St→Option (Ex'×St)} (hE:WsEnd ws) (hg:GoesI ws g)
include hE hg
theorem gi_choice {s:St} {y:Ex'×St} (h:choiceG ws g s=some y):Inn ws s y.2:=by
 unfold choiceG at h
 split at h
 ·rename_i hi
  obtain ⟨a,h1,h⟩:=bind_some h
  obtain ⟨b,h2,h⟩:=bind_some h
  obtain ⟨c,h3,rfl⟩:=map_some' h
  exact (((((Inn.is hE hi).trans (hg _ _ _ h1)).trans (Inn.must hE)).trans (hg _ _ _ h2)).trans (Inn.must hE)).trans (hg _ _ c h3)
 ·exact hg _ _ _ h
theorem gi_rel {s:St} {y:Ex'×St} (h:relG ws g s=some y):Inn ws s y.2:=by
 obtain ⟨a,h1,h⟩:=bind_some h
 have h0:=hg _ _ _ h1
 iterate 7 (split at h;(rename_i hi;obtain ⟨b,h2,rfl⟩:=map_some' h;exact (h0.trans (Inn.is hE hi)).trans (hg _ _ b h2)))
 split at h
 ·rename_i hi;simp only [Option.some.injEq] at h;subst h;exact (h0.trans (Inn.is hE hi)).trans (Inn.take hE (by decide))
 split at h
 ·rename_i hi;simp only [Option.some.injEq] at h;subst h;exact (h0.trans (Inn.is hE hi)).trans (Inn.path hE)
 simp only [Option.some.injEq] at h;subst h;exact h0
theorem gi_pref {s:St} {y:Ex'×St} (h:prefG ws g s=some y):Inn ws s y.2:=by
 unfold prefG at h
 split at h
 ·rename_i hi;obtain ⟨b,h2,rfl⟩:=map_some' h;exact (Inn.is hE hi).trans (hg _ _ b h2)
 ·split at h
  ·rename_i hi;obtain ⟨b,h2,rfl⟩:=map_some' h;exact (Inn.is hE hi).trans (hg _ _ b h2)
  ·exact hg _ _ _ h
theorem gi_mems {x:Ex'} {s:St} {y:Ex'×St} (h:memsG ws g x s=some y):Inn ws s y.2:=by
 unfold memsG at h
 split at h
 ·rename_i hi;exact (((Inn.is hE hi).trans (Inn.take hE (by decide))).trans (Inn.must hE)).trans (hg _ _ _ h)
 ·split at h
  ·rename_i hi
   simp only at h
   have h0:=(Inn.is hE hi).trans (Inn.take hE (k:=1) (by decide))
   split at h
   ·exact h0.trans (hg _ _ _ h)
   ·rename_i hj
    split at h
    ·simp only [Option.some.injEq] at h;subst h;exact h0.trans (Inn.fail (by decide))
    ·obtain ⟨b,h2,h⟩:=bind_some h
     exact (((h0.trans (Inn.is hE (by simpa using hj))).trans (hg _ _ _ h2)).trans (Inn.must hE)).trans (hg _ _ _ h)
  ·simp only [Option.some.injEq] at h;subst h;exact Inn.refl
theorem gi_its {op:Int} {ns:List Str} {ks:List Ex'} {s:St} {y:Ex'×St} (h:itsG ws g op ns ks s=some y):Inn ws s y.2:=by
 unfold itsG at h
 obtain ⟨a,h1,h⟩:=bind_some h
 have h0:=(Inn.head hE).trans (hg _ _ _ h1)
 split at h
 ·rename_i hi;simp only [Option.some.injEq] at h;subst h;exact h0.trans (Inn.is hE hi)
 ·exact (h0.trans (Inn.must hE)).trans (hg _ _ _ h)
theorem gi_items {op:Int} {s:St} {y:Ex'×St} (h:itemsG ws g op s=some y):Inn ws s y.2:=by
 unfold itemsG at h
 split at h
 ·rename_i hi;simp only [Option.some.injEq] at h;subst h;exact Inn.is hE hi
 ·exact hg _ _ _ h
theorem gi_prim {s:St} {y:Ex'×St} (h:primG ws g s=some y):Inn ws s y.2:=by
 unfold primG at h
 split at h
 ·rename_i hk;simp only [Option.some.injEq] at h;subst h;exact Inn.adv hE (by rw [hk];decide)
 split at h
 ·rename_i hk;simp only [Option.some.injEq] at h;subst h;exact Inn.adv hE (by rw [hk];decide)
 split at h
 ·rename_i hk
  split at h
  ·simp only [Option.some.injEq] at h;subst h;exact Inn.adv hE (by rw [hk];decide)
  ·simp only [Option.some.injEq] at h;subst h;exact Inn.fail (by decide)
 split at h
 ·rename_i hk;simp only [Option.some.injEq] at h;subst h;exact Inn.name hE hk
 split at h
 ·rename_i hi;obtain ⟨b,h2,rfl⟩:=map_some' h;exact ((Inn.is hE hi).trans (hg _ _ b h2)).trans (Inn.must hE)
 split at h
 ·rename_i hi;exact (Inn.is hE hi).trans (gi_items hE hg h)
 split at h
 ·rename_i hi;exact (Inn.is hE hi).trans (gi_items hE hg h)
 ·simp only [Option.some.injEq] at h;subst h;exact Inn.fail (by decide)
theorem gi_step {nt:NT} {s:St} {y:Ex'×St} (h:stepG ws g nt s=some y):Inn ws s y.2:=by
 cases nt with
 | expr=>
  simp only [stepG] at h
  split at h
  ·simp only [Option.some.injEq] at h;subst h;exact Inn.fail (by decide)
  ·obtain ⟨b,h2,rfl⟩:=map_some' h;exact (gi_choice hE hg h2:Inn ws (inn s) b.2)
 | lev k=>
  obtain ⟨a,h1,h⟩:=bind_some h
  exact (hg _ _ _ h1).trans (hg _ _ _ h)
 | rows k x=>
  simp only [stepG] at h
  split at h
  ·simp only [Option.some.injEq] at h;subst h;exact Inn.refl
  ·rename_i ho
   have hi:∃ t,isS ws s t=true:=by
    match k with
    | 0=>simp only [opAt] at ho;exact ⟨_,by by_cases h:isS ws s [124,124]=true;exact h;exact absurd (if_neg h) ho⟩
    | 1=>simp only [opAt] at ho;exact ⟨_,by by_cases h:isS ws s [38,38]=true;exact h;exact absurd (if_neg h) ho⟩
    | 2=>
     simp only [opAt] at ho
     by_cases h:isS ws s [43]=true
     ·exact ⟨_,h⟩
     ·rw [if_neg h] at ho
      exact ⟨_,by by_cases h:isS ws s [45]=true;exact h;exact absurd (if_neg h) ho⟩
    | k+3=>simp only [opAt] at ho;exact ⟨_,by by_cases h:isS ws s [42]=true;exact h;exact absurd (if_neg h) ho⟩
   obtain ⟨t,hi⟩:=hi
   obtain ⟨a,h1,h⟩:=bind_some h
   exact ((Inn.is hE hi).trans (hg _ _ _ h1)).trans (hg _ _ _ h)
 | rel=>exact gi_rel hE hg h
 | unary=>
  simp only [stepG] at h
  split at h
  ·simp only [Option.some.injEq] at h;subst h;exact Inn.fail (by decide)
  ·obtain ⟨b,h2,rfl⟩:=map_some' h;exact (gi_pref hE hg h2:Inn ws (inn s) b.2)
 | member=>
  obtain ⟨a,h1,h⟩:=bind_some h
  exact (hg _ _ _ h1).trans (hg _ _ _ h)
 | mems x=>exact gi_mems hE hg h
 | prim=>exact gi_prim hE hg h
 | its op ns ks=>exact gi_its hE hg h
end
theorem G_in {ws:Ws} (hE:WsEnd ws):∀ n,GoesI ws (G ws n)
 | 0=>fun _ _ _ h=>by obtain ⟨_,rfl⟩:=G_zero h;exact Inn.refl
 | n+1=>fun nt s y h=>by
  rw [G_succ] at h
  split at h
  ·exact gi_step hE (G_in hE n) h
  ·simp only [Option.some.injEq] at h;subst h;exact Inn.refl
theorem w1_end:∀ (n a:Nat) (s:List UInt8) (l:List (Wd×Nat)),s.length < n→w1 n a s=.ok l→l≠[]∧WsEnd l
 | 0,_,s,l,hn,h=>by omega
 | n + 1,a,s,l,hn,h=>by
  rw [w1] at h
  split at h
  ·injection h with h;subst h
   exact ⟨by simp,fun i hi hk=>by
    obtain rfl:i=0:=by simpa using hi
    simp at hk⟩
  ·rename_i hne
   split at h
   ·cases h
   ·rename_i w m hk
    split at h
    ·cases h
    ·rename_i l' hl
     injection h with h;subst h
     have h1:=tok_len hk
     have hpos:0 < s.length:=List.length_pos_iff.2 hne
     have h2:(s.drop (m+blankN (s.drop m))).length < n:=by rw [List.length_drop];omega
     obtain ⟨i1,i2⟩:=w1_end n _ _ l' h2 hl
     have hl':=List.length_pos_iff.2 i1
     refine ⟨by simp,fun i hi hk=>?_⟩
     cases i with
     | zero=>rw [List.length_cons];omega
     | succ i=>
      rw [List.length_cons] at hi ⊢
      have:=i2 i (by omega) (by simpa using hk)
      omega
theorem words_end {s:List UInt8} {l:List (Wd×Nat)} (h:words s=.ok l):WsEnd l:=
 (w1_end _ _ _ l (by rw [List.length_drop];omega) h).2
theorem read_in {ws:Ws} (hE:WsEnd ws) {i:Int} (hi:0≤i∧i < ws.length) (he:(readS ws i).2.2.1=0):0≤(readS ws i).2.1∧(readS ws i).2.1 < ws.length∧(depX (readS ws i).1:Int)≤2 * ws.length:=by
 obtain ⟨n,hn⟩:=runG_ex ws .expr (st0 i)
 unfold readS at *
 split at he
 ·rename_i h0
  rw [if_pos h0]
  have h1:=(G_in hE n _ _ _ hn h0).2 hi
  have h2:=G_dp ws n _ _ _ hn h0
  have e0:depN .expr=0:=rfl
  have e1:(st0 i).p=i:=rfl
  rw [e0,e1] at h2
  obtain ⟨a,b⟩:=h1
  exact ⟨a,b,by simp only at h2 ⊢;omega⟩
 ·exact absurd he ‹_›
theorem same_pure (F:Base) {cs:List Value} {x:Ex'} (h:RepP F cs x):∀ {cs':List Value},RepP F cs' x→PureV Tryz.prog F 9 #[.agg cs.toArray,.agg cs'.toArray] (.bool true):=by
 induction h with
 | mk op v nm a1 c1 kids g1 vn names hop hk hn hl1 hc1 h1 r1 hN i1=>
  intro cs' h'
  cases h' with
  | mk _ _ _ a2 c2 _ g2 vn2 _ _ _ _ _ hc2 h2 r2 hN2=>
   obtain ⟨an,cn,rfl,hcn,hln,hsn⟩:=hN
   obtain ⟨am,cm,rfl,hcm,-,hsm⟩:=hN2
   refine pureV_of_svc mixed Tryz.func9 low9 (Nat.le_of_ble_eq_true rfl) (fun w0=>?_)
   unfold xcells
   simp (disch:=first | assumption | exact .symm ‹_› | omega) only [fu9,↓ZD,ZW,simprocAttr]
   refine NewB.of fun b1 hb1 hF1=>?_
   simp (disch:=first | assumption | exact .symm ‹_› | omega) only [hF1,↓ZD,ZW,simprocAttr]
   refine NewB.of fun b2 hb2 hF2=>?_
   simp only [List.forall_mem_cons,List.not_mem_nil,false_implies,implies_true,and_true] at hb2
   simp (disch:=first | assumption | exact .symm ‹_› | omega) only [hF1,hF2,bne_self_eq_false,Bool.or_self,eq_self,beq_self_eq_true,↓ZD,ZW,simprocAttr]
   refine LoopL.inv (α:=Nat) (fun i=>i≤names.length) (fun i=>[(2,some (.pointer (some ⟨b1,0,none⟩))),(3,some (.pointer (some ⟨b2,0,none⟩))),(5,some (.int .i64 i))])
    (fun i=>[(b2,.cells (xcells op v (.slice none 0 0) (.slice none 0 0) nm (.slice a2 kids.length c2) (.slice am names.length cm)).toArray 31 (0,0)),(b1,.cells (xcells op v (.slice none 0 0) (.slice none 0 0) nm (.slice a1 kids.length c1) (.slice an names.length cn)).toArray 31 (0,0))]) (fun i=>names.length - i) 0 (Nat.zero_le _) (by (simp (disch:=first | assumption | exact .symm ‹_› | omega) only [↓ZD,ZW,simprocAttr];try trivial)) (by simp only [HLe_nil,HLe_cons,xcells];simp (disch:=first | assumption | exact .symm ‹_› | omega) only [↓ZD,ZW,simprocAttr]) ?_
   rintro i hi
   by_cases hlt:i < names.length
   ·have hd:decide ((i:Int) < (names.length:Int))=true:=by simp;omega
    have gs:=getS hlt
    obtain ⟨ba,oa,rfl,hla⟩:=(hsn.1 i _ gs).ld1
    obtain ⟨bb,ob,rfl,hlb⟩:=(hsm.1 i _ gs).ld1
    unfold xcells
    simp (disch:=first | assumption | exact .symm ‹_› | omega) only [hF1,hF2,bne_self_eq_false,Bool.or_self,eq_self,beq_self_eq_true,hd,↓ZD,ZW,simprocAttr]
    refine conj.of (by omega) ?_
    simp (disch:=first | assumption | exact .symm ‹_› | omega) only [hF1,hF2,bne_self_eq_false,Bool.or_self,eq_self,beq_self_eq_true,hd,Int.toNat_natCast,↓hla,↓hlb,↓ZD,ZW,simprocAttr]
    refine conj.of (by omega) ?_
    simp (disch:=first | assumption | exact .symm ‹_› | omega) only [hF1,hF2,bne_self_eq_false,Bool.or_self,eq_self,beq_self_eq_true,hd,Int.toNat_natCast,↓hla,↓hlb,↓ZD,ZW,simprocAttr]
    refine invK.on (i+1) (by omega) (by omega) ?_ ?_
    ·simp only [Le_nil,Le_cons]
     simp (disch:=first | assumption | exact .symm ‹_› | omega) only [↓ZD,ZW,simprocAttr]
     first | done | rfl | exact ⟨rfl,rfl⟩
    ·simp only [HLe_nil,HLe_cons,xcells]
     simp (disch:=first | assumption | exact .symm ‹_› | omega) only [↓ZD,ZW,simprocAttr]
   obtain rfl:i=names.length:=by omega
   have hd:decide ((names.length:Int) < (names.length:Int))=false:=by simp
   unfold xcells
   simp (disch:=first | assumption | exact .symm ‹_› | omega) only [hF1,hF2,bne_self_eq_false,Bool.or_self,eq_self,beq_self_eq_true,hd,↓ZD,ZW,simprocAttr]
   refine LoopL.inv (α:=Nat) (fun i=>i≤kids.length) (fun i=>[(2,some (.pointer (some ⟨b1,0,none⟩))),(3,some (.pointer (some ⟨b2,0,none⟩))),(6,some (.int .i64 i))])
    (fun i=>[(b2,.cells (xcells op v (.slice none 0 0) (.slice none 0 0) nm (.slice a2 kids.length c2) (.slice am names.length cm)).toArray 31 (0,0)),(b1,.cells (xcells op v (.slice none 0 0) (.slice none 0 0) nm (.slice a1 kids.length c1) (.slice an names.length cn)).toArray 31 (0,0))]) (fun i=>kids.length - i) 0 (Nat.zero_le _) (by (simp (disch:=first | assumption | exact .symm ‹_› | omega) only [↓ZD,ZW,simprocAttr];try trivial)) (by simp only [HLe_nil,HLe_cons,xcells];simp (disch:=first | assumption | exact .symm ‹_› | omega) only [↓ZD,ZW,simprocAttr]) ?_
   rintro i hi
   by_cases hlt:i < kids.length
   ·have hd:decide ((i:Int) < (kids.length:Int))=true:=by simp;omega
    have gx:=getX hlt
    have hc:=i1 i _ gx (r2 i _ gx)
    obtain ⟨q1,q2,q3,q4,q5,q6,q7,q8,q9,q10,q11,q12,q13,q14,q15,q16,q17,q18,q19,q20,e1⟩:=(r1 i _ gx).toX.form
    obtain ⟨p1,p2,p3,p4,p5,p6,p7,p8,p9,p10,p11,p12,p13,p14,p15,p16,p17,p18,p19,p20,e2⟩:=(r2 i _ gx).toX.form
    obtain ⟨ba,oa,rfl,hla⟩:=(h1 i _ gx).ldn
    obtain ⟨bb,ob,rfl,hlb⟩:=(h2 i _ gx).ldn
    rw [e1,e2] at hc
    rw [e1] at hla
    rw [e2] at hlb
    unfold xcells
    simp (disch:=first | assumption | exact .symm ‹_› | omega) only [hF1,hF2,bne_self_eq_false,Bool.or_self,eq_self,beq_self_eq_true,hd,↓ZD,ZW,simprocAttr]
    refine conj.of (by omega) ?_
    simp (disch:=first | assumption | exact .symm ‹_› | omega) only [hF1,hF2,bne_self_eq_false,Bool.or_self,eq_self,beq_self_eq_true,hd,Int.toNat_natCast,↓hla,↓hlb,↓ZD,ZW,simprocAttr]
    refine conj.of (by omega) ?_
    simp (disch:=first | assumption | exact .symm ‹_› | omega) only [hF1,hF2,bne_self_eq_false,Bool.or_self,eq_self,beq_self_eq_true,hd,Int.toNat_natCast,↓hla,↓hlb,↓ZD,ZW,simprocAttr]
    refine CallQ.of _ (hc.up) ?_
    simp (disch:=first | assumption | exact .symm ‹_› | omega) only [hF1,hF2,bne_self_eq_false,Bool.or_self,eq_self,beq_self_eq_true,↓ZD,ZW,simprocAttr]
    refine invK.on (i+1) (by omega) (by omega) ?_ ?_
    ·simp only [Le_nil,Le_cons]
     simp (disch:=first | assumption | exact .symm ‹_› | omega) only [↓ZD,ZW,simprocAttr]
     first | done | rfl | exact ⟨rfl,rfl⟩
    ·simp only [HLe_nil,HLe_cons,xcells]
     simp (disch:=first | assumption | exact .symm ‹_› | omega) only [↓ZD,ZW,simprocAttr]
   obtain rfl:i=kids.length:=by omega
   have hd:decide ((kids.length:Int) < (kids.length:Int))=false:=by simp
   unfold xcells
   simp (disch:=first | assumption | exact .symm ‹_› | omega) only [hF1,hF2,bne_self_eq_false,Bool.or_self,eq_self,beq_self_eq_true,hd,↓ZD,ZW,simprocAttr]
theorem tok_err' {s:List UInt8} {e:Int} (h:tok s=.error e):e≠0:=by
 unfold tok at h
 split at h
 ·injection h with h;subst h;assumption
 ·split at h
  ·injection h with h;subst h;decide
  ·cases h
theorem w1_err:∀ (n a:Nat) (s:List UInt8) (y:Int×Nat),w1 n a s=.error y→y.1≠0
 | 0,_,_,y,h=>by rw [w1] at h;cases h
 | n + 1,a,s,y,h=>by
  rw [w1] at h
  split at h
  ·cases h
  ·split at h
   ·rename_i hk
    injection h with h;subst h
    exact tok_err' hk
   ·split at h
    ·rename_i hw
     injection h with h;subst h
     exact w1_err n _ _ _ hw
    ·cases h
theorem cellsW_nil {l:Ws} (h:cellsW l=[]):l=[]:=by
 have:=cellsW_len l
 rw [h] at this
 exact List.eq_nil_of_length_eq_zero (by simp only [List.length_nil] at this;omega)
end Go.Proofs.YtoelfmmfjebabaaGreatDoor
