/- Joined. -/
import Derived.Test.YtoelfmmfjebabaaGreatDoorJf
import Derived.Test.YtoelfmmfjebabaaGreatDoorJg
import Derived.Test.YtoelfmmfjebabaaGreatDoorJd
import Derived.Test.YtoelfmmfjebabaaGreatDoorJk
import Derived.Test.YtoelfmmfjebabaaGreatDoorJe
import Derived.LaidSub
import Derived.LaidMore
import Derived.Lay
import Derived.Lib.LaidIn
set_option linter.unusedSectionVars false
namespace Go.Proofs.YtoelfmmfjebabaaGreatDoor
open Go Go.Eng
set_option maxHeartbeats 1000000
set_option linter.unusedSimpArgs false
set_option linter.unusedVariables false
set_option maxRecDepth 20000
inductive Tol:Ex'→Prop
 | bool (b:Bool):Tol (litX ⟨1,b,0,[],[],[]⟩)
 | num {n:Int}:0≤n→n≤9223372036854775807→Tol (litX ⟨2,false,n,[],[],[]⟩)
 | txt (t:Str):Tol (litX ⟨3,false,0,t,[],[]⟩)
 | ref {ty:Str} (id:Str):okPath ty=true→Tol (litX ⟨4,false,0,[],ty,id⟩)
 | var {t:Str}:t∈varL→Tol (.mk 2 lv0 t [] [])
 | slot {t:Str}:t∈slotL→Tol (.mk 3 lv0 t [] [])
 | two {op:Int} {a b:Ex'}:isTwo op=true→Tol a→Tol b→Tol (twoX op a b)
 | pre {op:Int} {a:Ex'}:op=6∨op=14→Tol a→Tol (oneX' op [] a)
 | ite {a b c:Ex'}:Tol a→Tol b→Tol c→Tol (.mk 7 lv0 [] [a,b,c] [])
 | is' {t:Str} {a:Ex'}:okPath t=true→Tol a→Tol (oneX' 16 t a)
 | has' {t:Str} {a:Ex'}:nameB t=true→Tol a→Tol (oneX' 17 t a)
 | get {t:Str} {a:Ex'}:Tol a→Tol (oneX' 18 t a)
 | set {ks:List Ex'}:(∀ k,k∈ks→Tol k)→Tol (.mk 19 lv0 [] ks [])
 | rcd {ns:List Str} {ks:List Ex'}:ns.length=ks.length→(∀ k,k∈ks→Tol k)→Tol (.mk 20 lv0 [] ks ns)
 | meth {op:Int} {a b:Ex'}:op=21∨op=22∨op=23→Tol a→Tol b→Tol (twoX op a b)
structure TW (x:Ex') (K:List Wd):Prop where
 rd:Rd2 x K
 lx:Lexs (pt x) K nLD
 fs:∃ c r,pt x=c::r∧c≠61
def Told (x:Ex'):Prop:=okX x=true∧∃ K,TW x K
theorem Lexs.any {P:Str} {ks:List Wd} {ok:UInt8→Bool} (h:Lexs P ks any8):Lexs P ks ok:=h.mono fun _ _=>rfl
theorem rd2_of {x:Ex'} {w:Wd} {K:List Wd} (h:Rd x (w::K)) (hw:noneB [[105,102],[93],[125],[33],[45]] w=true):Rd2 x (w::K):=⟨h,fun _ _=>⟨w,K,rfl,hw⟩⟩
theorem told_bool (b:Bool):Told (litX ⟨1,b,0,[],[],[]⟩):=by
 refine ⟨by cases b <;> rfl,_,rd2_of (rd_bool b) (by cases b <;> decide),?_,?_⟩
 ·cases b with
  | true=>exact Lexs.name (P:=[116,114,117,101]) (by decide)
  | false=>exact Lexs.name (P:=[102,97,108,115,101]) (by decide)
 ·cases b with
  | true=>exact ⟨_,_,rfl,by decide⟩
  | false=>exact ⟨_,_,rfl,by decide⟩
theorem isD_no61 {c:UInt8} (h:isD c=true):c≠61:=by
 rintro rfl;revert h;decide
theorem isL_no61 {c:UInt8} (h:isL c=true):c≠61:=by
 rintro rfl;revert h;decide
theorem told_num {n:Int} (h0:0≤n) (h1:n≤9223372036854775807):Told (litX ⟨2,false,n,[],[],[]⟩):=by
 obtain ⟨s1,s2,s3⟩:=shows_num h0 h1
 have e:pt (litX ⟨2,false,n,[],[],[]⟩)=shows n:=rfl
 refine ⟨?_,_,rd2_of (rd_num (shows n) n) (by simp [noneB,wIs]),?_,?_⟩
 ·show (arOk 1 0 0&&(okL []&&litOk ⟨2,false,n,[],[],[]⟩))=true
  simp [arOk,kidsI,okL,litOk,h0]
 ·rw [e]
  exact (Lexs.num s1 s2 s3).mono fun c h=>by
   have h:(!isLD c)=true:=h
   unfold isLD at h
   cases hd:isD c with
   | false=>rfl
   | true=>rw [hd,Bool.or_true] at h;cases h
 ·rw [e]
  obtain ⟨c,r,e2⟩:=List.exists_cons_of_ne_nil s1
  rw [e2,List.all_cons,Bool.and_eq_true] at s2
  exact ⟨c,r,e2,isD_no61 s2.1⟩
theorem told_txt (t:Str):Told (litX ⟨3,false,0,t,[],[]⟩):=⟨rfl,_,rd2_of (rd_txt t) (by simp [noneB,wIs]),(Lexs.quoted t).any,⟨34,_,rfl,by decide⟩⟩
theorem path_tyk {ty:Str} (h:okPath ty=true):∃ ks,TyK ty ks:=by
 unfold okPath at h
 rw [Bool.and_eq_true] at h
 obtain ⟨t,K,hk,e⟩:=path_ex _ ty (Nat.le_refl _) h.1
 refine ⟨_,hk,t,K,rfl,?_⟩
 have h2:=h.2
 unfold fst58 at h2
 rw [← e] at h2
 simpa using h2
theorem path_fs {ty:Str} {ks:List Wd} (h:PathK ty ks) (r:Str):∃ c r',ty++r=c::r'∧c≠61:=by
 have key:∀ {t:Str},nameB t=true→∃ c r',t=c::r'∧c≠61:=fun {t} ht=>by
  cases t with
  | nil=>cases ht
  | cons c r=>rw [nameB,Bool.and_eq_true] at ht;exact ⟨c,r,rfl,isL_no61 ht.1⟩
 cases h with
 | one ht=>obtain ⟨c,r',rfl,hc⟩:=key ht;exact ⟨c,_,rfl,hc⟩
 | more ht _=>obtain ⟨c,r',rfl,hc⟩:=key ht;exact ⟨c,_,rfl,hc⟩
theorem told_ref {ty:Str} (id:Str) (h:okPath ty=true):Told (litX ⟨4,false,0,[],ty,id⟩):=by
 obtain ⟨ks,hk⟩:=path_tyk h
 have hr:=rd_ref (id:=id) hk
 have hk':=hk
 obtain ⟨hk1,t,K,rfl,ho⟩:=hk'
 refine ⟨?_,_,⟨hr,fun _ _=>⟨_,_,rfl,?_⟩⟩,?_,?_⟩
 ·show (arOk 1 0 0&&(okL []&&litOk ⟨4,false,0,[],ty,id⟩))=true
  simp [arOk,kidsI,okL,litOk,h]
 ·have hn:nameB t=true:=by cases hk1 <;> assumption
  have hif:wIs (nm t) [105,102]=false:=by
   unfold wIs
   rw [Bool.and_eq_false_iff]
   refine .inr ?_
   rw [beq_eq_false_iff_ne]
   rintro e
   exact ho (by rw [show t=[105,102] from e];simp [ownL])
  have:=name_no hn
  simp only [noneB,List.all_cons,List.all_nil,Bool.and_true,hif,Bool.not_false,Bool.true_and] at this ⊢
  exact this
 ·show Lexs (ty++(cc++quote id)) _ nLD
  have h2:Lexs ([58,58]++quote id) [mk cK,(3,id,0)] nLD:=(Lexs.mark2 (by decide)).app' (Lexs.quoted id).any
  exact (path_lexs hk1).then h2 (by decide)
 ·exact path_fs hk1 _
theorem told_var {t:Str} (h:t∈varL):Told (.mk 2 lv0 t [] []):=by
 simp [varL] at h
 rcases h with rfl | rfl | rfl | rfl <;> exact ⟨by rfl,_,rd2_of (rd_var (by simp [varL])) (by decide),Lexs.name (by decide),⟨_,_,rfl,by decide⟩⟩
theorem told_slot {t:Str} (h:t∈slotL):Told (.mk 3 lv0 t [] []):=by
 simp [slotL] at h
 rcases h with rfl | rfl <;> exact ⟨by rfl,_,rd2_of (rd_slot (by simp [slotL])) (by decide),Lexs.slot (by decide),⟨_,_,rfl,by decide⟩⟩
theorem sign_lex {op:Int} (h:isTwo op=true):∃ o,opW op o∧Lexs (signT op) [o] any8∧∃ r,signT op=32::r:=by
 have h:op=4∨op=5∨op=8∨op=9∨op=10∨op=11∨op=12∨op=13∨op=15:=by
  simp [isTwo] at h;omega
 have m2:∀ c d:UInt8,twosL.contains [c,d]=true→Lexs ([32]++([c,d]++[32])) [mk [c,d]] any8:=fun c d h=>Lexs.sp1 (by have:=(Lexs.mark2 h).app' (Lexs.sp (A:=[32]) (by decide));simpa using this)
 have m1:∀ c:UInt8,lone c=true→Lexs ([32]++([c]++[32])) [mk [c]] any8:=fun c h=>Lexs.sp1 (Lexs.one h (Lexs.sp (A:=[32]) (by decide)))
 rcases h with rfl | rfl | rfl | rfl | rfl | rfl | rfl | rfl | rfl
 ·exact ⟨_,.inr (.inl ⟨rfl,rfl⟩),m2 38 38 (by decide),_,rfl⟩
 ·exact ⟨_,.inl ⟨rfl,rfl⟩,m2 124 124 (by decide),_,rfl⟩
 ·exact ⟨_,.inr (.inr (.inr (.inr (.inr (.inl ⟨rfl,rfl⟩))))),m2 61 61 (by decide),_,rfl⟩
 ·refine ⟨_,.inr (.inr (.inr (.inr (.inr (.inr (.inl ⟨rfl,rfl⟩)))))),?_,_,rfl⟩
  have h1:Lexs ([60]++[32]) ([mk [60]]++[]) any8:=(Lexs.mark1 (by decide)).app (Lexs.sp (A:=[32]) (by decide)) (by simp) (fun c r e=>by injection e with e1 _;subst e1;decide)
  exact Lexs.sp1 h1
 ·exact ⟨_,.inr (.inr (.inr (.inr (.inr (.inr (.inr (.inl ⟨rfl,rfl⟩))))))),m2 60 61 (by decide),_,rfl⟩
 ·exact ⟨_,.inr (.inr (.inl ⟨rfl,rfl⟩)),m1 43 (by decide),_,rfl⟩
 ·exact ⟨_,.inr (.inr (.inr (.inl ⟨rfl,rfl⟩))),m1 45 (by decide),_,rfl⟩
 ·exact ⟨_,.inr (.inr (.inr (.inr (.inl ⟨rfl,rfl⟩)))),m1 42 (by decide),_,rfl⟩
 ·refine ⟨_,.inr (.inr (.inr (.inr (.inr (.inr (.inr (.inr ⟨rfl,rfl⟩))))))),?_,_,rfl⟩
  exact Lexs.sp1 (Lexs.word (u:=[105,110]) (Q:=[]) (by decide) (Lexs.sp (A:=[32]) (by decide)) (by decide))
theorem told_two {op:Int} {a b:Ex'} (h:isTwo op=true) (ha:Told a) (hb:Told b):Told (twoX op a b):=by
 obtain ⟨oa,Ka,ta⟩:=ha
 obtain ⟨ob,Kb,tb⟩:=hb
 obtain ⟨o,ho,hl,r,er⟩:=sign_lex h
 have h':op=4∨op=5∨op=8∨op=9∨op=10∨op=11∨op=12∨op=13∨op=15:=by
  simp [isTwo] at h;omega
 have e:pt (twoX op a b)=40::(pt a++(signT op++(pt b++[41]))):=by
  rcases h' with rfl | rfl | rfl | rfl | rfl | rfl | rfl | rfl | rfl <;> simp [twoX,pt,ptL,arOk,kidsI,nodeT,isTwo]
 refine ⟨?_,_,rd2_of (rd_two ta.rd.toRd tb.rd.toRd ho) (by decide),?_,40,_,e,by decide⟩
 ·rcases h' with rfl | rfl | rfl | rfl | rfl | rfl | rfl | rfl | rfl <;> simp [twoX,okX,okL,arOk,kidsI,nodeOk,oa,ob]
 ·rw [e]
  have l1:Lexs (pt b++[41]) (Kb++[mk [41]]) any8:=tb.lx.then (Lexs.end1 (by decide)) (by decide)
  have l2:=hl.app' l1
  have l3:Lexs (pt a++(signT op++(pt b++[41]))) (Ka++([o]++(Kb++[mk [41]]))) any8:=by
   rw [er] at l2 ⊢
   exact ta.lx.then l2 (by decide)
  exact (Lexs.one (by decide) l3).any
theorem told_pre {op:Int} {a:Ex'} (h:op=6∨op=14) (ha:Told a):Told (oneX' op [] a):=by
 obtain ⟨oa,Ka,ta⟩:=ha
 have key:∀ c:UInt8,(c=33∧op=6)∨(c=45∧op=14)→pt (oneX' op [] a)=c::pt a→Told (oneX' op [] a):=fun c hc e=>by
  refine ⟨?_,mk [c]::Ka,⟨rd_pre ta.rd.toRd hc,fun h6 h14=>?_⟩,?_,c,_,e,by rcases hc with ⟨rfl,_⟩ | ⟨rfl,_⟩ <;> decide⟩
  ·rcases h with rfl | rfl <;> simp [oneX',okX,okL,arOk,kidsI,nodeOk,oa]
  ·rcases h with rfl | rfl
   ·exact absurd rfl h6
   ·exact absurd rfl h14
  ·rw [e]
   obtain ⟨d,r,e2,hd⟩:=ta.fs
   have hne:pt a≠[]:=by rw [e2];simp
   have hc1:onesR.contains c=true:=by rcases hc with ⟨rfl,_⟩ | ⟨rfl,_⟩ <;> decide
   refine (Lexs.mark1 hc1).app ta.lx hne fun d' r' e3=>?_
   rw [e2] at e3
   injection e3 with e3 _
   subst e3
   rcases hc with ⟨rfl,_⟩ | ⟨rfl,_⟩ <;> simp [twosL,hd]
 rcases h with rfl | rfl
 ·exact key 33 (.inl ⟨rfl,rfl⟩) (by simp [oneX',pt,ptL,arOk,kidsI,nodeT,isTwo])
 ·exact key 45 (.inr ⟨rfl,rfl⟩) (by simp [oneX',pt,ptL,arOk,kidsI,nodeT,isTwo])
theorem told_if {a b c:Ex'} (ha:Told a) (hb:Told b) (hc:Told c):Told (.mk 7 lv0 [] [a,b,c] []):=by
 obtain ⟨oa,Ka,ta⟩:=ha
 obtain ⟨ob,Kb,tb⟩:=hb
 obtain ⟨oc,Kc,tc⟩:=hc
 have e:pt (.mk 7 lv0 [] [a,b,c] [])=40::([105,102]++32::(pt a++32::([116,104,101,110]++32::(pt b++32::([101,108,115,101]++32::(pt c++[41])))))):=by
  simp [pt,ptL,arOk,kidsI,nodeT,isTwo]
 refine ⟨by simp [okX,okL,arOk,kidsI,nodeOk,oa,ob,oc],_,rd2_of (rd_if ta.rd.toRd tb.rd.toRd tc.rd.toRd) (by decide),?_,40,_,e,by decide⟩
 rw [e]
 have l1:Lexs (pt c++[41]) (Kc++[mk [41]]) any8:=tc.lx.then (Lexs.end1 (by decide)) (by decide)
 have l2:=Lexs.word (u:=[101,108,115,101]) (by decide) l1.sp1 (by decide)
 have l3:=tb.lx.then l2.sp1 (by decide)
 have l4:=Lexs.word (u:=[116,104,101,110]) (by decide) l3.sp1 (by decide)
 have l5:=ta.lx.then l4.sp1 (by decide)
 have l6:=Lexs.word (u:=[105,102]) (by decide) l5.sp1 (by decide)
 have l7:=Lexs.one (c:=40) (by decide) l6
 have:=l7.any (ok:=nLD)
 simpa using this
theorem told_is {t:Str} {a:Ex'} (h:okPath t=true) (ha:Told a):Told (oneX' 16 t a):=by
 obtain ⟨oa,Ka,ta⟩:=ha
 obtain ⟨ks,hk⟩:=path_tyk h
 have e:pt (oneX' 16 t a)=40::(pt a++32::([105,115]++32::(t++[41]))):=by simp [oneX',pt,ptL,arOk,kidsI,nodeT,isTwo]
 refine ⟨by simp [oneX',okX,okL,arOk,kidsI,nodeOk,oa,h],_,rd2_of (rd_is ta.rd.toRd hk) (by decide),?_,40,_,e,by decide⟩
 rw [e]
 have l1:Lexs (t++[41]) (ks++[mk [41]]) any8:=(path_lexs hk.1).then (Lexs.end1 (by decide)) (by decide)
 have l2:=Lexs.word (u:=[105,115]) (by decide) l1.sp1 (by decide)
 have l3:=ta.lx.then l2.sp1 (by decide)
 have:=(Lexs.one (c:=40) (by decide) l3).any (ok:=nLD)
 simpa using this
theorem told_has {t:Str} {a:Ex'} (h:nameB t=true) (ha:Told a):Told (oneX' 17 t a):=by
 obtain ⟨oa,Ka,ta⟩:=ha
 have e:pt (oneX' 17 t a)=40::(pt a++32::([104,97,115]++32::(t++[41]))):=by simp [oneX',pt,ptL,arOk,kidsI,nodeT,isTwo]
 refine ⟨by simp [oneX',okX,okL,arOk,kidsI,nodeOk,oa,h],_,rd2_of (rd_has (t:=t) ta.rd.toRd) (by decide),?_,40,_,e,by decide⟩
 rw [e]
 have l1:=Lexs.word (u:=t) (c:=41) h (Lexs.end1 (by decide)) (by decide)
 have l2:=Lexs.word (u:=[104,97,115]) (by decide) l1.sp1 (by decide)
 have l3:=ta.lx.then l2.sp1 (by decide)
 have:=(Lexs.one (c:=40) (by decide) l3).any (ok:=nLD)
 simpa using this
theorem own_tw {a:Ex'} {K:List Wd} (t:TW a K):Lexs (own1 a.op (pt a)) (ownK a K) nLD∧∃ c r,own1 a.op (pt a)=c::r∧c≠61:=by
 unfold own1 ownK
 by_cases h:a.op=6∨a.op=14
 ·rw [if_pos h,if_pos h]
  exact ⟨(Lexs.one (by decide) (t.lx.then (Lexs.end1 (by decide)) (by decide))).any,40,_,rfl,by decide⟩
 ·rw [if_neg h,if_neg h]
  exact ⟨t.lx,t.fs⟩
theorem own_rd2 {a y:Ex'} {K K2:List Wd} (t:TW a K) (h:Rd y (ownK a K++K2)):Rd2 y (ownK a K++K2):=by
 obtain ⟨w,K0,e,hw⟩:=ownK_ne t.rd.toRd t.rd.ft
 exact ⟨h,fun _ _=>⟨w,K0++K2,by rw [e];rfl,hw⟩⟩
theorem fs_app {P Q:Str} (h:∃ c r,P=c::r∧c≠61):∃ c r,P++Q=c::r∧c≠61:=by
 obtain ⟨c,r,rfl,hc⟩:=h
 exact ⟨c,r++Q,rfl,hc⟩
theorem told_get {t:Str} {a:Ex'} (ha:Told a):Told (oneX' 18 t a):=by
 obtain ⟨oa,Ka,ta⟩:=ha
 obtain ⟨hl,hf⟩:=own_tw ta
 have ok:okX (oneX' 18 t a)=true:=by simp [oneX',okX,okL,arOk,kidsI,nodeOk,oa]
 refine ⟨ok,?_⟩
 by_cases hn:nameB t=true
 ·have e:pt (oneX' 18 t a)=own1 a.op (pt a)++46::t:=by simp [oneX',pt,ptL,arOk,kidsI,nodeT,isTwo,hn]
  refine ⟨_,own_rd2 ta (rd_dot (t:=t) ta.rd),?_,by rw [e];exact fs_app hf⟩
  rw [e]
  exact hl.then (Lexs.one (by decide) (Lexs.name hn)) (by decide)
 ·have e:pt (oneX' 18 t a)=own1 a.op (pt a)++91::(quote t++[93]):=by simp [oneX',pt,ptL,arOk,kidsI,nodeT,isTwo,hn]
  refine ⟨_,own_rd2 ta (rd_get (t:=t) ta.rd),?_,by rw [e];exact fs_app hf⟩
  rw [e]
  exact (hl.then (Lexs.one (by decide) ((Lexs.quoted t).app' (Lexs.end1 (by decide)))) (by decide)).any
theorem told_meth {op:Int} {a b:Ex'} (h:op=21∨op=22∨op=23) (ha:Told a) (hb:Told b):Told (twoX op a b):=by
 obtain ⟨oa,Ka,ta⟩:=ha
 obtain ⟨ob,Kb,tb⟩:=hb
 obtain ⟨hl,hf⟩:=own_tw ta
 have key:∀ m:Str,nameB m=true→methI m=op→pt (twoX op a b)=own1 a.op (pt a)++46::(m++40::(pt b++[41]))→okX (twoX op a b)=true→op≠0→Told (twoX op a b):=fun m hm hi e ok h0=>by
  refine ⟨ok,_,own_rd2 ta (rd_meth ta.rd tb.rd.toRd hi h0),?_,by rw [e];exact fs_app hf⟩
  rw [e]
  have l1:Lexs (pt b++[41]) (Kb++[mk [41]]) any8:=tb.lx.then (Lexs.end1 (by decide)) (by decide)
  exact (hl.then (Lexs.one (by decide) (Lexs.word hm (Lexs.one (by decide) l1) (by decide))) (by decide)).any
 rcases h with rfl | rfl | rfl
 ·exact key [99,111,110,116,97,105,110,115] (by decide) (by decide) (by simp [twoX,pt,ptL,arOk,kidsI,nodeT,isTwo,methT]) (by simp [twoX,okX,okL,arOk,kidsI,nodeOk,oa,ob]) (by decide)
 ·exact key [99,111,110,116,97,105,110,115,65,108,108] (by decide) (by decide) (by simp [twoX,pt,ptL,arOk,kidsI,nodeT,isTwo,methT]) (by simp [twoX,okX,okL,arOk,kidsI,nodeOk,oa,ob]) (by decide)
 ·exact key [99,111,110,116,97,105,110,115,65,110,121] (by decide) (by decide) (by simp [twoX,pt,ptL,arOk,kidsI,nodeT,isTwo,methT]) (by simp [twoX,okX,okL,arOk,kidsI,nodeOk,oa,ob]) (by decide)
theorem items_ex:∀ (ks:List Ex') (ns:List Str),ns.length=ks.length→(∀ k∈ks,Told k)→∃ l:List It,l.map It.x=ks∧l.map It.n=ns∧∀ j∈l,TW j.x j.K
 | [],[],_,_=>⟨[],rfl,rfl,fun j hj=>by cases hj⟩
 | [],_::_,h,_=>by simp at h
 | _::_,[],h,_=>by simp at h
 | k::ks,n::ns,h,hk=>by
  obtain ⟨l,h1,h2,h3⟩:=items_ex ks ns (by simpa using h) fun x hx=>hk x (List.mem_cons_of_mem _ hx)
  obtain ⟨-,K,t⟩:=hk k List.mem_cons_self
  refine ⟨⟨n,k,K⟩::l,by rw [List.map_cons,h1],by rw [List.map_cons,h2],fun j hj=>?_⟩
  rcases List.mem_cons.1 hj with rfl | hj
  ·exact t
  ·exact h3 j hj
theorem ptL_map:∀ l:List Ex',ptL l=l.map pt
 | []=>rfl
 | x::l=>by rw [ptL,ptL_map l];rfl
theorem okL_of:∀ {l:List Ex'},(∀ k∈l,Told k)→okL l=true
 | [],_=>rfl
 | x::l,h=>by rw [okL,(h x List.mem_cons_self).1,okL_of fun k hk=>h k (List.mem_cons_of_mem _ hk)];rfl
section
variable {op:Int} {ahead:Nat→Str}
theorem more_lexs (hop:op=19∨op=20):∀ (l:List It) (i:Nat),0 < i→(∀ (k:Nat) (j:It),l[k]?=some j→TW j.x j.K∧∀ (Q:Str) (kq:List Wd),Lexs Q kq any8→Lexs (ahead (i+k)++Q) (hdK op j.n++kq) any8) →
  Lexs (rowT ahead i (l.map fun j=>pt j.x)++endOf op) (moreK op l++[mk (endOf op)]) any8∧∃ c r,rowT ahead i (l.map fun j=>pt j.x)++endOf op=c::r∧isLD c=false
 | [],i,hi,_=>by
  rcases hop with rfl | rfl
  ·exact ⟨Lexs.end1 (by decide),93,[],rfl,by decide⟩
  ·exact ⟨Lexs.end1 (by decide),125,[],rfl,by decide⟩
 | j::l,i,hi,h=>by
  obtain ⟨t,ha⟩:=h 0 j rfl
  obtain ⟨h1,c,r,e,hc⟩:=more_lexs hop l (i+1) (by omega) fun k j' hk=>by
   have:=h (k+1) j' (by simpa using hk)
   rwa [show i+(k+1)=i+1+k by omega] at this
  rw [List.map_cons,rowT,if_pos hi]
  rw [e] at h1
  have h2:=t.lx.then h1 hc
  have h3:=Lexs.one (c:=44) (by decide) (ha _ _ h2).sp1
  rw [← e] at h3
  refine ⟨?_,44,_,rfl,by decide⟩
  have:[44,32]++(ahead i++(pt j.x++rowT ahead (i+1) (l.map fun j=>pt j.x)))++endOf op=44::32::(ahead (i+0)++(pt j.x++(rowT ahead (i+1) (l.map fun j=>pt j.x)++endOf op))):=by simp
  rw [this]
  have e2:moreK op (j::l)++[mk (endOf op)]=mk [44]::(hdK op j.n++(j.K++(moreK op l++[mk (endOf op)]))):=by simp [moreK]
  rw [e2]
  exact h3
theorem row_lexs (hop:op=19∨op=20) (l:List It) (h:∀ (k:Nat) (j:It),l[k]?=some j→TW j.x j.K∧∀ (Q:Str) (kq:List Wd),Lexs Q kq any8→Lexs (ahead k++Q) (hdK op j.n++kq) any8):Lexs (rowT ahead 0 (l.map fun j=>pt j.x)++endOf op) (rowK op l++[mk (endOf op)]) any8:=by
 cases l with
 | nil=>
  rcases hop with rfl | rfl
  ·exact Lexs.end1 (by decide)
  ·exact Lexs.end1 (by decide)
 | cons j l=>
  obtain ⟨t,ha⟩:=h 0 j rfl
  obtain ⟨h1,c,r,e,hc⟩:=more_lexs (ahead:=ahead) hop l 1 (by omega) fun k j' hk=>by
   have:=h (k+1) j' (by simpa using hk)
   rwa [show k+1=1+k by omega] at this
  rw [e] at h1
  have h2:=ha _ _ (t.lx.then h1 hc)
  rw [← e] at h2
  rw [List.map_cons,rowT,if_neg (by omega)]
  have:[]++(ahead 0++(pt j.x++rowT ahead (0+1) (l.map fun j=>pt j.x)))++endOf op=ahead 0++(pt j.x++(rowT ahead 1 (l.map fun j=>pt j.x)++endOf op)):=by simp
  rw [this]
  have e2:rowK op (j::l)++[mk (endOf op)]=hdK op j.n++(j.K++(moreK op l++[mk (endOf op)])):=by simp [rowK]
  rw [e2]
  exact h2
end
theorem told_row {op:Int} (hop:op=19∨op=20) (l:List It) (ht:∀ j∈l,TW j.x j.K) (hk:∀ k∈l.map It.x,Told k):Told (.mk op lv0 [] (l.map It.x) (nsF op [] l)):=by
 have hr:=rd_items hop l fun j hj=>(ht j hj).rd.toRd
 have e1:ptL (l.map It.x)=l.map fun j=>pt j.x:=by rw [ptL_map,List.map_map];rfl
 have hok:=okL_of hk
 have one:∀ Q kq,Lexs Q kq any8→∀ n:Str,Lexs ((quote n++[58,32])++Q) ([(3,n,0),mk [58]]++kq) any8:=fun Q kq hQ n=>by
  have h1:Lexs ([58]++([32]++Q)) ([mk [58]]++kq) any8:=(Lexs.mark1 (by decide)).app hQ.sp1 (by simp) (fun c r e=>by injection e with e1 _;subst e1;decide)
  have:=(Lexs.quoted n).app' h1
  simpa using this
 rcases hop with rfl | rfl
 ·have e:pt (.mk 19 lv0 [] (l.map It.x) (nsF 19 [] l))=91::(rowT (fun _=>[]) 0 (l.map fun j=>pt j.x)++[93]):=by
   rw [← e1];simp [pt,arOk,kidsI,nodeT,isTwo,nsF]
  refine ⟨by simp [okX,arOk,kidsI,nodeOk,hok,nsF],_,rd2_of hr (by decide),?_,91,_,e,by decide⟩
  rw [e]
  exact (Lexs.one (by decide) (row_lexs (.inl rfl) l fun k j hj=>⟨ht j (List.mem_of_getElem? hj),fun Q kq h=>by simpa [hdK] using h⟩)).any
 ·have e:pt (.mk 20 lv0 [] (l.map It.x) (nsF 20 [] l))=123::(rowT (fun i=>quote ((l.map It.n).getD i [])++[58,32]) 0 (l.map fun j=>pt j.x)++[125]):=by
   rw [← e1];simp [pt,arOk,kidsI,nodeT,isTwo,nsF]
  refine ⟨by simp [okX,arOk,kidsI,nodeOk,hok,nsF],_,rd2_of hr (by decide),?_,123,_,e,by decide⟩
  rw [e]
  refine (Lexs.one (by decide) (row_lexs (.inr rfl) l fun k j hj=>⟨ht j (List.mem_of_getElem? hj),fun Q kq h=>?_⟩)).any
  have en:(l.map It.n).getD k []=j.n:=by rw [List.getD_eq_getElem?_getD,List.getElem?_map,hj];rfl
  show Lexs (quote ((l.map It.n).getD k [])++[58,32]++Q) _ _
  rw [en]
  exact one Q kq h j.n
theorem told_all {x:Ex'} (h:Tol x):Told x:=by
 induction h with
 | bool b=>exact told_bool b
 | num h0 h1=>exact told_num h0 h1
 | txt t=>exact told_txt t
 | ref id h=>exact told_ref id h
 | var h=>exact told_var h
 | slot h=>exact told_slot h
 | two h _ _ ha hb=>exact told_two h ha hb
 | pre h _ ha=>exact told_pre h ha
 | ite _ _ _ ha hb hc=>exact told_if ha hb hc
 | is' h _ ha=>exact told_is h ha
 | has' h _ ha=>exact told_has h ha
 | get _ ha=>exact told_get ha
 | @set ks _ hk=>
  obtain ⟨l,h1,h2,h3⟩:=items_ex ks (ks.map fun _=>[]) (by simp) hk
  have:=told_row (.inl rfl) l h3 (by rw [h1];exact hk)
  rw [h1] at this
  exact this
 | @rcd ns ks hl _ hk=>
  obtain ⟨l,h1,h2,h3⟩:=items_ex ks ns hl hk
  have:=told_row (.inr rfl) l h3 (by rw [h1];exact hk)
  rw [h1] at this
  have e:nsF 20 [] l=ns:=by unfold nsF;rw [if_pos rfl,h2];rfl
  rw [e] at this
  exact this
 | meth h _ _ ha hb=>exact told_meth h ha hb
abbrev nV:Value:=.slice none 0 0
def lf (op:Int) (v:LV) (nm:Str):List Value:=xcells op v nV nV nm nV nV
theorem i6:∀ n:Int,-100≤n→n≤100→I64 n:=fun n h1 h2=>by unfold I64;omega
end Go.Proofs.YtoelfmmfjebabaaGreatDoor
namespace Go.Proofs.YtoelfmmfjebabaaGreatDoor
open Go
set_option maxRecDepth 100000
def L4 : List (String × DataW Unit) := [("unicode/utf8.acceptRanges", Rows.laid_unicode_utf8_acceptRanges), ("chamberlain/lex.marks", Rows.laid_chamberlain_lex_marks), ("chamberlain/printer.signs", Rows.laid_chamberlain_printer_signs), ("unicode/utf8.first", Rows.laid_unicode_utf8_first)]
theorem L4m : (L4.filter fun x => x.1 == "chamberlain/lex.marks") = [("chamberlain/lex.marks", Rows.laid_chamberlain_lex_marks)] := by kernel_rfl
theorem L4s : (L4.filter fun x => x.1 != "chamberlain/lex.marks") = [("unicode/utf8.acceptRanges", Rows.laid_unicode_utf8_acceptRanges), ("chamberlain/printer.signs", Rows.laid_chamberlain_printer_signs), ("unicode/utf8.first", Rows.laid_unicode_utf8_first)] := by kernel_rfl
theorem marks4 {w:World} (h:laidMetH Tryz.prog L4 w):HasMarks (fun b=>w.heap[b]?):=by
 have := h.filter fun x => x.1 == "chamberlain/lex.marks"
 rw [L4m] at this
 exact hasMarks_of this
theorem signs4 {w:World} (h:laidMetH Tryz.prog L4 w):HasSigns (fun b=>w.heap[b]?):=by
 have := h.filter fun x => x.1 != "chamberlain/lex.marks"
 rw [L4s] at this
 exact hasSigns_of (by kernel_rfl) (by kernel_rfl) this
noncomputable def W0 (os : Os) : World := (World.doorLaid Tryz.prog 69 os).layVars Tryz.prog [("chamberlain/lex.marks", Rows.laid_chamberlain_lex_marks), ("unicode/utf8.first", Rows.laid_unicode_utf8_first)]
theorem W0_os (os:Os):(W0 os).os=os:=World.layVars_os _ _ _
theorem L4a : (L4.filter fun x => ["chamberlain/lex.marks", "unicode/utf8.first"].contains x.1) = [("chamberlain/lex.marks", Rows.laid_chamberlain_lex_marks), ("unicode/utf8.first", Rows.laid_unicode_utf8_first)] := by kernel_rfl
theorem L4b : (L4.filter fun x => !["chamberlain/lex.marks", "unicode/utf8.first"].contains x.1) = [("unicode/utf8.acceptRanges", Rows.laid_unicode_utf8_acceptRanges), ("chamberlain/printer.signs", Rows.laid_chamberlain_printer_signs)] := by kernel_rfl
theorem laid_W0 (os:Os) (args:Array Value):laidMetH Tryz.prog L4 ((W0 os).forCall (fun _ _=>0) ⟨#[],args,[]⟩).memory:=by
 rw [MakeChecks.laidMetH_plain _ _ _ (by kernel_rfl)]
 have h : laidMet Tryz.prog L4 (W0 os) := laidMet_layVars (w0 := World.doorLaid Tryz.prog 69 os) ["chamberlain/lex.marks", "unicode/utf8.first"] [4, 0, 10] (by rw [L4a]; rfl) (by rw [L4a]; kernel_rfl) (by rw [L4a]; kernel_rfl)
  (by rw [L4b];exact LaidIn.of_run [4,0,10] 8 (by kernel_rfl) (by kernel_rfl) (by kernel_rfl) (by kernel_rfl))
 exact h.of_heap (by simp [World.memory,World.forCall,Input.heap])
end Go.Proofs.YtoelfmmfjebabaaGreatDoor
namespace Go.Proofs.YtoelfmmfjebabaaGreatDoor
open Go Go.Eng
set_option maxHeartbeats 1000000
set_option linter.unusedSimpArgs false
set_option linter.unusedVariables false
set_option maxRecDepth 20000
def WdOk (w:Wd):Prop:=(w.1=1→nameB w.2.1=true)∧(w.1=2→0≤w.2.2∧w.2.2≤9223372036854775807)
theorem nameX_ok {s:Str} (h:isL (s.getD 0 0)=true):nameB (nameX s)=true:=by
 cases s with
 | nil=>revert h;decide
 | cons c r=>
  have hc:isL c=true:=h
  rw [nameX,if_pos hc,nameB,hc,Bool.true_and]
  exact List.all_eq_true.2 fun x hx=>by
   have:∀ (r:Str),x∈r.takeWhile isLD→isLD x=true:=fun r=>by
    induction r with
    | nil=>intro h;cases h
    | cons d r ih=>
     intro h
     rw [List.takeWhile_cons] at h
     split at h
     ·rename_i hd
      rcases List.mem_cons.1 h with rfl | h
      ·exact hd
      ·exact ih h
     ·cases h
   exact this r hx
theorem readD_ok (l:Str) (h:(readD false l).2=0):0≤(readD false l).1∧(readD false l).1≤9223372036854775807:=by
 have key:∀ v:Nat,(fitR (v:Int)).2=0→0≤(fitR (v:Int)).1∧(fitR (v:Int)).1≤9223372036854775807:=fun v=>by
  unfold fitR
  split
  ·rename_i hf;intro _;exact ⟨by show (0:Int)≤v;omega,hf.2⟩
  ·intro h;exact absurd h (show ¬ (14:Int)=0 by decide)
 unfold readD at h ⊢
 split
 ·rename_i hn
  rw [if_pos hn] at h
  exact absurd h (by decide)
 ·rename_i hn
  rw [if_neg hn] at h
  exact key _ h
theorem tokT_ok {s:Str} {w:Wd} {m:Nat} (h:tok s=.ok (w,m)):WdOk w:=by
 unfold tok at h
 split at h
 ·cases h
 ·rename_i he
  split at h
  ·cases h
  ·simp only [Except.ok.injEq,Prod.mk.injEq] at h
   obtain ⟨rfl,-⟩:=h
   unfold oneX at he ⊢
   split
   ·rename_i hl;exact ⟨fun _=>nameX_ok hl,fun e=>absurd e (by simp)⟩
   rename_i hl
   rw [if_neg hl] at he
   split
   ·rename_i hd
    rw [if_pos hd] at he
    exact ⟨fun e=>absurd e (by simp),fun _=>readD_ok _ (by simpa using he)⟩
   repeat' split
   all_goals exact ⟨fun e=>absurd e (by simp),fun e=>absurd e (by simp)⟩
theorem w1T_ok:∀ (n a:Nat) (s:Str) (l:List (Wd×Nat)),w1 n a s=.ok l→∀ w∈l,WdOk w.1
 | 0,_,s,l,h=>by
  rw [w1] at h;injection h with h;subst h;intro w hw;cases hw
 | n + 1,a,s,l,h=>by
  rw [w1] at h
  split at h
  ·injection h with h;subst h
   intro w hw
   rw [List.mem_singleton.1 hw]
   exact ⟨fun e=>absurd e (by simp),fun e=>absurd e (by simp)⟩
  ·split at h
   ·cases h
   ·rename_i w m hk
    split at h
    ·cases h
    ·rename_i l' hl
     injection h with h;subst h
     intro v hv
     rcases List.mem_cons.1 hv with rfl | hv
     ·exact tokT_ok hk
     ·exact w1T_ok n _ _ l' hl v hv
def WsT (ws:Ws):Prop:=∀ p:Int,WdOk (wdAt ws p).1
def NTok:NT→Prop
 | .rows _ x=>Tol x
 | .mems x=>Tol x
 | .its op ns ks=>(op=19∧ns=[]∨op=20∧ns.length=ks.length)∧∀ k,k∈ks→Tol k
 | _=>True
def ToldG (g:NT→St→Option (Ex'×St)):Prop:=∀ nt s y,g nt s=some y→y.2.e=0→NTok nt→Tol y.1
theorem take_ok {ws:Ws} {s:St} {k:Int} (h:(takeS ws s k).2.e=0):(takeS ws s k).1=wtx ws s∧wk ws s=k:=by
 unfold takeS at h ⊢
 split at h
 ·rename_i hc
  rw [if_pos hc]
  exact ⟨rfl,hc.2⟩
 ·exact absurd h (failS_e (by decide))
theorem take_name_ok {ws:Ws} (hT:WsT ws) {s:St} (h:(takeS ws s 1).2.e=0):nameB (takeS ws s 1).1=true:=by
 obtain ⟨e,hk⟩:=take_ok h
 rw [e]
 exact (hT s.p).1 (by unfold wk at hk;omega)
theorem pathB_nm {s:Str} (h:nameB s=true):pathB s=true:=by
 rw [pathB_miss (idx_no fun j=>?_)]
 ·exact h
 ·cases hc:Go.Lib.occAt s cc j with
  | false=>rfl
  | true=>
   obtain ⟨l1,c1,-⟩:=(occ_iff s j).mp hc
   have k:isLD 58=false:=by decide
   have hl:isL 58=false:=by decide
   rw [nameB_all,Bool.and_eq_true] at h
   have:=List.all_eq_true.1 h.2 58 (by rw [← c1,List.getD_eq_getElem?_getD,List.getElem?_eq_getElem (by omega)];exact List.getElem_mem _)
   rw [k] at this;cases this
end Go.Proofs.YtoelfmmfjebabaaGreatDoor
namespace Go.Proofs.YtoelfmmfjebabaaGreatDoor
open Go Go.Eng
set_option maxHeartbeats 1000000
set_option linter.unusedSimpArgs false
set_option linter.unusedVariables false
set_option linter.unusedSectionVars false
set_option maxRecDepth 20000
theorem nm_58 {t:Str} (ht:nameB t=true):∀ c∈t,c≠58:=by
 rintro c hc rfl
 have k:isLD 58=false:=by decide
 rw [nameB_all,Bool.and_eq_true] at ht
 have:=List.all_eq_true.1 ht.2 58 hc
 rw [k] at this;cases this
theorem path_cons {t u:Str} (ht:nameB t=true):pathB (t++58::58::u)=pathB u:=by
 have hi:Go.Lib.index (t++58::58::u) cc=t.length:=by
  refine idx_at ((occ_iff _ _).2 ⟨by simp,?_,?_⟩) fun j hj=>?_
  ·rw [List.getD_eq_getElem?_getD,List.getElem?_append_right (Nat.le_refl _),Nat.sub_self];rfl
  ·rw [List.getD_eq_getElem?_getD,List.getElem?_append_right (by omega),show t.length+1 - t.length=1 by omega];rfl
  ·cases hc:Go.Lib.occAt (t++58::58::u) cc j with
   | false=>rfl
   | true=>
    obtain ⟨-,c1,-⟩:=(occ_iff _ _).mp hc
    rw [List.getD_eq_getElem?_getD,List.getElem?_append_left hj,List.getElem?_eq_getElem hj] at c1
    exact absurd c1 (nm_58 ht _ (List.getElem_mem hj))
 rw [pathB_hit hi,List.take_left' rfl,ht,Bool.true_and]
 congr 1
 rw [← List.drop_drop,List.drop_left' rfl];rfl
theorem fst_nm {t u:Str} (ht:nameB t=true) (hu:u=[]∨∃ r,u=58::r):fst58 (t++u)=t:=by
 unfold fst58
 rw [List.takeWhile_append_of_pos (fun c hc=>by have:=nm_58 ht c hc;simpa using this)]
 rcases hu with rfl | ⟨r,rfl⟩
 ·simp
 ·rw [List.takeWhile_cons,if_neg (by decide),List.append_nil]
def WsL (ws:Ws):Prop:=∀ w∈ws,WdOk w.1
theorem pathL_ok:∀ (n:Nat) (l:Ws),l.length≤n→WsL l→∀ t,nameB t=true→pathB (t++(pathL l).1)=true∧((pathL l).1=[]∨∃ r,(pathL l).1=58::r):=by
 intro n
 induction n with
 | zero=>
  intro l hl _ t ht
  have:l=[]:=List.eq_nil_of_length_eq_zero (by omega)
  subst this
  rw [pathL]
  ·exact ⟨by rw [List.append_nil];exact pathB_nm ht,.inl rfl⟩
  ·intro a b r e;cases e
 | succ n ih=>
  intro l hl hw t ht
  match l,hl,hw with
  | [],_,_=>exact ⟨by show pathB (t++[])=true;rw [List.append_nil];exact pathB_nm ht,.inl rfl⟩
  | [a],_,_=>exact ⟨by show pathB (t++[])=true;rw [List.append_nil];exact pathB_nm ht,.inl rfl⟩
  | a::b::r,hl,hw=>
   rw [pathL]
   split
   ·rename_i hc
    rw [Bool.and_eq_true,beq_iff_eq] at hc
    have hb:nameB b.1.2.1=true:=(hw b (by simp)).1 (by have:=hc.2;omega)
    obtain ⟨i1,i2⟩:=ih r (by rw [List.length_cons,List.length_cons] at hl;omega) (fun w h=>hw w (by simp [h])) _ hb
    refine ⟨?_,.inr ⟨_,rfl⟩⟩
    show pathB (t++58::58::(b.1.2.1++(pathL r).1))=true
    rw [path_cons ht]
    exact i1
   ·exact ⟨by rw [List.append_nil];exact pathB_nm ht,.inl rfl⟩
theorem wsT_of {ws:Ws} (h:WsL ws):WsT ws:=fun p=>by
 by_cases hp:0≤p∧p < ws.length
 ·obtain ⟨i,rfl⟩:∃ i:Nat,p=i:=⟨p.toNat,by omega⟩
  have hi:i < ws.length:=by omega
  rw [wdAt_in hi,List.getD_eq_getElem?_getD,List.getElem?_eq_getElem hi]
  exact h _ (List.getElem_mem hi)
 ·rw [wdAt_out hp]
  exact ⟨fun e=>absurd e (by simp),fun e=>absurd e (by simp)⟩
section
variable {ws:Ws} (hT:WsL ws)
include hT
theorem path_told {s:St} (h:(pathS ws s).2.e=0):okPath (pathS ws s).1=true:=by
 unfold pathS pathT at h ⊢
 by_cases ho:wtx ws s∈ownL
 ·rw [if_pos ho] at h
  exfalso
  rw [takeS_err (failS_e (by decide)),if_neg (failS_e (by decide))] at h
  exact absurd h (failS_e (by decide))
 ·rw [if_neg ho] at h ⊢
  by_cases he:(takeS ws s 1).2.e=0
  ·rw [if_pos he]
   have hn:=take_name_ok (wsT_of hT) he
   obtain ⟨e,-⟩:=take_ok he
   obtain ⟨i1,i2⟩:=pathL_ok _ (ws.drop (takeS ws s 1).2.p.toNat) (Nat.le_refl _) (fun w h=>hT w (List.mem_of_mem_drop h)) _ hn
   unfold okPath
   dsimp only
   rw [i1,fst_nm hn i2,e]
   simp [ho]
  ·rw [if_neg he] at h;exact absurd h he
theorem uid_told {s:St} (h:(uidS ws s).2.e=0):okPath (uidS ws s).1.1=true:=by
 unfold uidS at h ⊢
 exact path_told hT (Fwd.must (Fwd.take h).1).1
theorem name_told {s:St} (h:(nameG ws s).2.e=0):Tol (nameG ws s).1:=by
 unfold nameG at h ⊢
 split
 ·exact .bool _
 rename_i h1
 rw [if_neg h1] at h
 split
 ·rename_i h2
  rw [if_pos h2] at h
  exact .ref _ (uid_told hT h)
 rename_i h2
 rw [if_neg h2] at h
 split
 ·rename_i h3;exact .var h3
 ·rename_i h3
  rw [if_neg h3] at h
  exact absurd h (failS_e (by decide))
variable {g:NT→St→Option (Ex'×St)} (hg:GoesOn g) (hG:ToldG g)
include hg hG
theorem told_choice {s:St} {y:Ex'×St} (h:choiceG ws g s=some y) (he:y.2.e=0):Tol y.1:=by
 unfold choiceG at h
 split at h
 ·obtain ⟨a,h1,h⟩:=bind_some h
  obtain ⟨b,h2,h⟩:=bind_some h
  obtain ⟨c,h3,rfl⟩:=map_some' h
  have e3:=(Fwd.must (hg _ _ _ h3 he).1).1
  have e2:=(Fwd.must (hg _ _ _ h2 e3).1).1
  exact .ite (hG _ _ _ h1 e2 trivial) (hG _ _ _ h2 e3 trivial) (hG _ _ _ h3 he trivial)
 ·exact hG _ _ _ h he trivial
theorem told_rel {s:St} {y:Ex'×St} (h:relG ws g s=some y) (he:y.2.e=0):Tol y.1:=by
 unfold relG at h
 obtain ⟨a,h1,h⟩:=bind_some h
 have two:∀ (t:Str) (f:Ex'→Ex'),isS ws a.2 t=true→(∀ b,Tol a.1→Tol b→Tol (f b))→((g (.lev 2) (adv a.2)).map fun b=>(f b.1,b.2))=some y→Tol y.1:=fun t f hi hf hm=>by
  obtain ⟨b,h2,rfl⟩:=map_some' hm
  exact hf _ (hG _ _ _ h1 (isS_ok hi) trivial) (hG _ _ _ h2 he trivial)
 split at h
 ·exact two _ (fun b=>twoX 8 a.1 b) ‹_› (fun b ha hb=>.two (by decide) ha hb) h
 split at h
 ·exact two _ (fun b=>oneX' 6 [] (twoX 8 a.1 b)) ‹_› (fun b ha hb=>.pre (.inl rfl) (.two (by decide) ha hb)) h
 split at h
 ·exact two _ (fun b=>twoX 9 a.1 b) ‹_› (fun b ha hb=>.two (by decide) ha hb) h
 split at h
 ·exact two _ (fun b=>twoX 10 a.1 b) ‹_› (fun b ha hb=>.two (by decide) ha hb) h
 split at h
 ·exact two _ (fun b=>twoX 9 b a.1) ‹_› (fun b ha hb=>.two (by decide) hb ha) h
 split at h
 ·exact two _ (fun b=>twoX 10 b a.1) ‹_› (fun b ha hb=>.two (by decide) hb ha) h
 split at h
 ·exact two _ (fun b=>twoX 15 a.1 b) ‹_› (fun b ha hb=>.two (by decide) ha hb) h
 split at h
 ·rename_i hi
  simp only [Option.some.injEq] at h;subst h
  exact .has' (take_name_ok (wsT_of hT) he) (hG _ _ _ h1 (isS_ok hi) trivial)
 split at h
 ·rename_i hi
  simp only [Option.some.injEq] at h;subst h
  exact .is' (path_told hT he) (hG _ _ _ h1 (isS_ok hi) trivial)
 ·simp only [Option.some.injEq] at h;subst h
  exact hG _ _ _ h1 he trivial
theorem told_prefix {s:St} {y:Ex'×St} (h:prefG ws g s=some y) (he:y.2.e=0):Tol y.1:=by
 unfold prefG at h
 split at h
 ·obtain ⟨a,h1,rfl⟩:=map_some' h
  exact .pre (.inl rfl) (hG _ _ _ h1 he trivial)
 split at h
 ·obtain ⟨a,h1,rfl⟩:=map_some' h
  exact .pre (.inr rfl) (hG _ _ _ h1 he trivial)
 ·exact hG _ _ _ h he trivial
theorem told_mems {x:Ex'} (hx:Tol x) {s:St} {y:Ex'×St} (h:memsG ws g x s=some y) (he:y.2.e=0):Tol y.1:=by
 unfold memsG at h
 split at h
 ·exact hG _ _ _ h he (Tol.get hx)
 split at h
 ·dsimp only at h
  split at h
  ·exact hG _ _ _ h he (Tol.get hx)
  split at h
  ·simp only [Option.some.injEq] at h;subst h;exact absurd he (failS_e (by decide))
  ·rename_i h0
   obtain ⟨b,h1,h⟩:=bind_some h
   have e1:=(Fwd.must (hg _ _ _ h he).1).1
   refine hG _ _ _ h he (Tol.meth ?_ hx (hG _ _ _ h1 e1 trivial))
   revert h0
   unfold methI
   split
   ·intro _;exact .inl rfl
   split
   ·intro _;exact .inr (.inl rfl)
   split
   ·intro _;exact .inr (.inr rfl)
   ·intro h;exact absurd rfl h
 ·simp only [Option.some.injEq] at h;subst h;exact hx
theorem told_its {op:Int} {ns:List Str} {ks:List Ex'} (hn:NTok (.its op ns ks)) {s:St} {y:Ex'×St} (h:itsG ws g op ns ks s=some y) (he:y.2.e=0):Tol y.1:=by
 unfold itsG at h
 obtain ⟨a,h1,h⟩:=bind_some h
 obtain ⟨ho,hk⟩:=hn
 have hd:op=19∧(headS ws op ns s).1=[]∨op=20∧(headS ws op ns s).1.length=ks.length+1:=by
  unfold headS
  rcases ho with ⟨rfl,rfl⟩ | ⟨rfl,hl⟩
  ·exact .inl ⟨rfl,by rw [if_neg (by decide)]⟩
  ·exact .inr ⟨rfl,by rw [if_pos rfl];simp [hl]⟩
 have hks:Tol a.1→∀ k,k∈ks++[a.1]→Tol k:=fun ha k hm=>by
  rcases List.mem_append.1 hm with hm | hm
  ·exact hk k hm
  ·rw [List.mem_singleton.1 hm];exact ha
 split at h
 ·rename_i hi
  simp only [Option.some.injEq] at h;subst h
  have ha:=hG _ _ _ h1 (isS_ok hi) trivial
  rcases hd with ⟨rfl,e⟩ | ⟨rfl,e⟩
  ·dsimp only;rw [e];exact .set (hks ha)
  ·exact .rcd (by rw [e];simp) (hks ha)
 ·have e1:=(Fwd.must (hg _ _ _ h he).1).1
  have ha:=hG _ _ _ h1 e1 trivial
  refine hG _ _ _ h he ⟨?_,hks ha⟩
  rcases hd with ⟨rfl,e⟩ | ⟨rfl,e⟩
  ·exact .inl ⟨rfl,e⟩
  ·exact .inr ⟨rfl,by rw [e];simp⟩
theorem told_items {op:Int} (hop:op=19∨op=20) {s:St} {y:Ex'×St} (h:itemsG ws g op s=some y) (he:y.2.e=0):Tol y.1:=by
 unfold itemsG at h
 split at h
 ·simp only [Option.some.injEq] at h;subst h
  rcases hop with rfl | rfl
  ·exact .set fun k hk=>absurd hk (by simp)
  ·exact .rcd rfl fun k hk=>absurd hk (by simp)
 ·refine hG _ _ _ h he ⟨?_,fun k hk=>absurd hk (by simp)⟩
  rcases hop with rfl | rfl
  ·exact .inl ⟨rfl,rfl⟩
  ·exact .inr ⟨rfl,rfl⟩
theorem told_prim {s:St} {y:Ex'×St} (h:primG ws g s=some y) (he:y.2.e=0):Tol y.1:=by
 unfold primG at h
 split at h
 ·rename_i hk
  simp only [Option.some.injEq] at h;subst h
  obtain ⟨h1,h2⟩:=(wsT_of hT s.p).2 (by unfold wk at hk;omega)
  exact .num h1 h2
 split at h
 ·simp only [Option.some.injEq] at h;subst h;exact .txt _
 split at h
 ·split at h
  ·rename_i hs
   simp only [Option.some.injEq] at h;subst h;exact .slot hs
  ·simp only [Option.some.injEq] at h;subst h;exact absurd he (failS_e (by decide))
 split at h
 ·simp only [Option.some.injEq] at h;subst h;exact name_told hT he
 split at h
 ·obtain ⟨a,h1,rfl⟩:=map_some' h
  have:=hG _ _ _ h1 (Fwd.must he).1 trivial
  exact this
 split at h
 ·exact told_items hT hg hG (.inl rfl) h he
 split at h
 ·exact told_items hT hg hG (.inr rfl) h he
 ·simp only [Option.some.injEq] at h;subst h;exact absurd he (failS_e (by decide))
theorem told_step {nt:NT} {s:St} {y:Ex'×St} (h:stepG ws g nt s=some y) (he:y.2.e=0) (hn:NTok nt):Tol y.1:=by
 cases nt with
 | expr=>
  simp only [stepG] at h
  split at h
  ·simp only [Option.some.injEq] at h;subst h;exact absurd he (failS_e (by decide))
  ·obtain ⟨b,h2,rfl⟩:=map_some' h
   have:=told_choice hT hg hG h2 he
   exact this
 | lev k=>
  simp only [stepG] at h
  obtain ⟨a,h1,h⟩:=bind_some h
  have f1:=(hg _ _ _ h he).1
  have hl:NTok (lowN k):=by
   match k with
   | 0=>exact trivial
   | 1=>exact trivial
   | 2=>exact trivial
   | k+3=>exact trivial
  exact hG _ _ _ h he (show NTok (.rows k a.1) from hG _ _ a h1 f1 hl)
 | rows k x=>
  simp only [stepG] at h
  split at h
  ·simp only [Option.some.injEq] at h;subst h;exact hn
  ·rename_i ho
   obtain ⟨a,h1,h⟩:=bind_some h
   have f1:=(hg _ _ _ h he).1
   have hl:NTok (lowN k):=by
    match k with
    | 0=>exact trivial
    | 1=>exact trivial
    | 2=>exact trivial
    | k+3=>exact trivial
   have ha:=hG _ _ a h1 f1 hl
   refine hG _ _ _ h he (show NTok (.rows k (twoX (opAt ws k s) x a.1)) from .two ?_ hn ha)
   revert ho
   match k with
   | 0=>simp only [opAt];split <;> simp [isTwo]
   | 1=>simp only [opAt];split <;> simp [isTwo]
   | 2=>simp only [opAt];split <;> (try split) <;> simp [isTwo]
   | k+3=>simp only [opAt];split <;> simp [isTwo]
 | rel=>exact told_rel hT hg hG h he
 | unary=>
  simp only [stepG] at h
  split at h
  ·simp only [Option.some.injEq] at h;subst h;exact absurd he (failS_e (by decide))
  ·obtain ⟨b,h2,rfl⟩:=map_some' h
   have:=told_prefix hT hg hG h2 he
   exact this
 | member=>
  simp only [stepG] at h
  obtain ⟨a,h1,h⟩:=bind_some h
  have f1:=(hg _ _ _ h he).1
  exact hG _ _ _ h he (show NTok (.mems a.1) from hG _ _ a h1 f1 trivial)
 | mems x=>exact told_mems hT hg hG hn h he
 | prim=>exact told_prim hT hg hG h he
 | its op ns ks=>exact told_its hT hg hG hn h he
end
theorem G_told {ws:Ws} (hT:WsL ws):∀ n,ToldG (G ws n)
 | 0=>fun _ _ _ h he=>by obtain ⟨h1,rfl⟩:=G_zero h;exact absurd he h1
 | n+1=>fun nt s y h he hn=>by
  rw [G_succ] at h
  split at h
  ·exact told_step hT (G_goes ws n) (G_told hT n) h he hn
  ·rename_i hs
   simp only [Option.some.injEq] at h;subst h;exact absurd he hs
theorem read_told {ws:Ws} (hT:WsL ws) {i:Int} (h:(readS ws i).2.2.1=0):Tol (readS ws i).1:=by
 obtain ⟨n,hn⟩:=runG_ex ws .expr (st0 i)
 unfold readS at h ⊢
 by_cases he:(runG ws .expr (st0 i)).2.e=0
 ·rw [if_pos he];exact G_told hT n _ _ _ hn he trivial
 ·rw [if_neg he] at h;exact absurd h he
def phN (ws:Ws):Nat→Nat
 | 0=>0
 | n+1=>phN ws n+(24+(wdAt ws (n:Int)).1.2.1.length)
def ph (ws:Ws) (p:Int):Nat:=phN ws p.toNat
def inW:NT→Nat
 | .rows _ x=>wt x
 | .mems x=>wt x
 | .its _ ns ks=>12+wtL ks+(ns.map fun x=>x.length+1).sum
 | _=>0
theorem wtL_app:∀ (l m:List Ex'),wtL (l++m)=wtL l+wtL m
 | [],m=>by rw [wtL];simp
 | x::l,m=>by rw [List.cons_append,wtL,wtL,wtL_app l m];omega
theorem wt_two (op:Int) (a b:Ex'):wt (twoX op a b)=12+wt a+wt b:=by simp [twoX,wt,wtL,lv0];omega
theorem wt_one (op:Int) (nm:Str) (a:Ex'):wt (oneX' op nm a)=12+nm.length+wt a:=by simp [oneX',wt,wtL,lv0]
section
variable {ws:Ws}
theorem ph_adv {s:St} (h:0≤s.p):ph ws s.p+24+(wtx ws s).length=ph ws (adv s).p:=by
 obtain ⟨n,hn⟩:∃ n:Nat,s.p=n:=⟨s.p.toNat,by omega⟩
 have e:(adv s).p.toNat=n+1:=by show (s.p+1).toNat=_;omega
 unfold ph wtx
 rw [e,hn,Int.toNat_natCast,phN];omega
theorem ph_must {s:St} {t:Str} (h:0≤s.p) (he:(mustS ws s t).e=0):ph ws s.p+24≤ph ws (mustS ws s t).p∧0≤(mustS ws s t).p:=by
 unfold mustS at he ⊢
 split at he
 ·rename_i hi
  rw [if_pos hi]
  have:=ph_adv (ws:=ws) h
  exact ⟨by omega,by show 0≤s.p+1;omega⟩
 ·exact absurd he (failS_e (by decide))
theorem ph_take {s:St} {k:Int} (h:0≤s.p) (he:(takeS ws s k).2.e=0):ph ws s.p+24+(takeS ws s k).1.length≤ph ws (takeS ws s k).2.p∧0≤(takeS ws s k).2.p:=by
 unfold takeS at he ⊢
 split at he
 ·rename_i hi
  rw [if_pos hi]
  have:=ph_adv (ws:=ws) h
  exact ⟨by dsimp only;omega,by show 0≤s.p+1;omega⟩
 ·exact absurd he (failS_e (by decide))
theorem ph_pathL:∀ (n:Nat) (i:Nat),ws.length≤i+n→(pathL (ws.drop i)).1.length+phN ws i≤phN ws (i+(pathL (ws.drop i)).2):=by
 intro n
 induction n with
 | zero=>
  intro i h
  rw [List.drop_eq_nil_of_le (by omega)]
  show ([]:Str).length+_≤_
  simp [pathL]
 | succ n ih=>
  intro i h
  by_cases h1:i+1 < ws.length
  ·rw [List.drop_eq_getElem_cons (by omega),List.drop_eq_getElem_cons h1,pathL]
   split
   ·have:=ih (i+1+1) (by omega)
    have e1:(wdAt ws ((i:Nat):Int)).1.2.1=ws[i].1.2.1:=by rw [wdAt_in (by omega),List.getD_eq_getElem?_getD,List.getElem?_eq_getElem (by omega)];rfl
    have e2:(wdAt ws ((i+1:Nat):Int)).1.2.1=ws[i+1].1.2.1:=by rw [wdAt_in h1,List.getD_eq_getElem?_getD,List.getElem?_eq_getElem h1];rfl
    have p1:phN ws (i+1)=phN ws i+(24+ws[i].1.2.1.length):=by rw [phN,e1]
    have p2:phN ws (i+1+1)=phN ws (i+1)+(24+ws[i+1].1.2.1.length):=by rw [phN,e2]
    dsimp only
    rw [show i+((pathL (ws.drop (i+1+1))).2+2)=i+1+1+(pathL (ws.drop (i+1+1))).2 by omega]
    simp only [List.length_append,List.length_cons,List.length_nil]
    omega
   ·simp
  ·by_cases h0:i < ws.length
   ·rw [List.drop_eq_getElem_cons h0,List.drop_eq_nil_of_le (by omega)]
    simp [pathL]
   ·rw [List.drop_eq_nil_of_le (by omega)]
    simp [pathL]
theorem ph_path {s:St} (h:0≤s.p) (he:(pathS ws s).2.e=0):ph ws s.p+24+(pathS ws s).1.length≤ph ws (pathS ws s).2.p∧0≤(pathS ws s).2.p:=by
 unfold pathS pathT at he ⊢
 by_cases ho:wtx ws s∈ownL
 ·rw [if_pos ho] at he
  exfalso
  rw [takeS_err (failS_e (by decide)),if_neg (failS_e (by decide))] at he
  exact absurd he (failS_e (by decide))
 ·rw [if_neg ho] at he ⊢
  by_cases h1:(takeS ws s 1).2.e=0
  ·rw [if_pos h1]
   obtain ⟨a1,a2⟩:=ph_take h h1
   have:=ph_pathL (ws:=ws) ws.length (takeS ws s 1).2.p.toNat (by omega)
   refine ⟨?_,by dsimp only;omega⟩
   dsimp only
   unfold ph at a1 ⊢
   rw [List.length_append,show ((takeS ws s 1).2.p+((pathL (ws.drop (takeS ws s 1).2.p.toNat)).2:Int)).toNat=(takeS ws s 1).2.p.toNat+(pathL (ws.drop (takeS ws s 1).2.p.toNat)).2 by omega]
   omega
  ·rw [if_neg h1] at he;exact absurd he h1
theorem ph_uid {s:St} (h:0≤s.p) (he:(uidS ws s).2.e=0):ph ws s.p+24+(uidS ws s).1.1.length+(uidS ws s).1.2.length≤ph ws (uidS ws s).2.p∧0≤(uidS ws s).2.p:=by
 unfold uidS at he ⊢
 have e2:=(Fwd.take he).1
 have e1:=(Fwd.must e2).1
 obtain ⟨a1,a2⟩:=ph_path h e1
 obtain ⟨b1,b2⟩:=ph_must a2 e2
 obtain ⟨c1,c2⟩:=ph_take b2 he
 dsimp only
 exact ⟨by omega,c2⟩
def WtG (ws:Ws) (g:NT→St→Option (Ex'×St)):Prop:=∀ nt s y,g nt s=some y→y.2.e=0→0≤s.p→wt y.1+ph ws s.p≤ph ws y.2.p+inW nt∧0≤y.2.p
variable {g:NT→St→Option (Ex'×St)} (hg:GoesOn g) (hG:WtG ws g)
include hg hG
theorem wt_choice {s:St} {y:Ex'×St} (h:choiceG ws g s=some y) (he:y.2.e=0) (h0:0≤s.p):wt y.1+ph ws s.p≤ph ws y.2.p∧0≤y.2.p:=by
 unfold choiceG at h
 split at h
 ·obtain ⟨a,h1,h⟩:=bind_some h
  obtain ⟨b,h2,h⟩:=bind_some h
  obtain ⟨c,h3,rfl⟩:=map_some' h
  have e3:=(hg _ _ _ h3 he).1
  have e3':=(Fwd.must e3).1
  have e2:=(hg _ _ _ h2 e3').1
  have e2':=(Fwd.must e2).1
  have p0:=ph_adv (ws:=ws) h0
  have q0:0≤(adv s).p:=by show 0≤s.p+1;omega
  obtain ⟨p1,q1⟩:=hG _ _ _ h1 e2' q0
  obtain ⟨p2,q2⟩:=ph_must q1 e2
  obtain ⟨p3,q3⟩:=hG _ _ _ h2 e3' q2
  obtain ⟨p4,q4⟩:=ph_must q3 e3
  obtain ⟨p5,q5⟩:=hG _ _ _ h3 he q4
  refine ⟨?_,q5⟩
  have e:wt (.mk 7 lv0 [] [a.1,b.1,c.1] [])=12+wt a.1+wt b.1+wt c.1:=by simp [wt,wtL,lv0];omega
  dsimp only
  rw [e]
  simp only [inW] at p1 p3 p5
  omega
 ·obtain ⟨a,b⟩:=hG _ _ _ h he h0
  simp only [inW] at a
  exact ⟨by omega,b⟩
theorem wt_rel {s:St} {y:Ex'×St} (h:relG ws g s=some y) (he:y.2.e=0) (h0:0≤s.p):wt y.1+ph ws s.p≤ph ws y.2.p∧0≤y.2.p:=by
 unfold relG at h
 obtain ⟨a,h1,h⟩:=bind_some h
 have two:∀ (t:Str) (f:Ex'→Ex'),isS ws a.2 t=true→(∀ b,wt (f b)≤wt a.1+wt b+24)→((g (.lev 2) (adv a.2)).map fun b=>(f b.1,b.2))=some y→wt y.1+ph ws s.p≤ph ws y.2.p∧0≤y.2.p:=fun t f hi hf hm=>by
  obtain ⟨b,h2,rfl⟩:=map_some' hm
  obtain ⟨p1,q1⟩:=hG _ _ _ h1 (isS_ok hi) h0
  have p2:=ph_adv (ws:=ws) q1
  obtain ⟨p3,q3⟩:=hG _ _ _ h2 he (by show 0≤a.2.p+1;omega)
  have:=hf b.1
  simp only [inW] at p1 p3
  exact ⟨by dsimp only;omega,q3⟩
 split at h
 ·exact two _ (fun b=>twoX 8 a.1 b) ‹_› (fun b=>by rw [wt_two];omega) h
 split at h
 ·exact two _ (fun b=>oneX' 6 [] (twoX 8 a.1 b)) ‹_› (fun b=>by rw [wt_one,wt_two,List.length_nil];omega) h
 split at h
 ·exact two _ (fun b=>twoX 9 a.1 b) ‹_› (fun b=>by rw [wt_two];omega) h
 split at h
 ·exact two _ (fun b=>twoX 10 a.1 b) ‹_› (fun b=>by rw [wt_two];omega) h
 split at h
 ·exact two _ (fun b=>twoX 9 b a.1) ‹_› (fun b=>by rw [wt_two];omega) h
 split at h
 ·exact two _ (fun b=>twoX 10 b a.1) ‹_› (fun b=>by rw [wt_two];omega) h
 split at h
 ·exact two _ (fun b=>twoX 15 a.1 b) ‹_› (fun b=>by rw [wt_two];omega) h
 split at h
 ·rename_i hi
  simp only [Option.some.injEq] at h;subst h
  obtain ⟨p1,q1⟩:=hG _ _ _ h1 (isS_ok hi) h0
  have p2:=ph_adv (ws:=ws) q1
  obtain ⟨p3,q3⟩:=ph_take (ws:=ws) (s:=adv a.2) (by show 0≤a.2.p+1;omega) he
  simp only [inW] at p1
  dsimp only
  rw [wt_one]
  exact ⟨by omega,q3⟩
 split at h
 ·rename_i hi
  simp only [Option.some.injEq] at h;subst h
  obtain ⟨p1,q1⟩:=hG _ _ _ h1 (isS_ok hi) h0
  have p2:=ph_adv (ws:=ws) q1
  obtain ⟨p3,q3⟩:=ph_path (ws:=ws) (s:=adv a.2) (by show 0≤a.2.p+1;omega) he
  simp only [inW] at p1
  dsimp only
  rw [wt_one]
  exact ⟨by omega,q3⟩
 ·simp only [Option.some.injEq] at h;subst h
  obtain ⟨a,b⟩:=hG _ _ _ h1 he h0
  simp only [inW] at a
  exact ⟨by omega,b⟩
end
section
variable {ws:Ws}
theorem wt_name {s:St} (h0:0≤s.p) (h:(nameG ws s).2.e=0):wt (nameG ws s).1+ph ws s.p≤ph ws (nameG ws s).2.p∧0≤(nameG ws s).2.p:=by
 unfold nameG at h ⊢
 have p:=ph_adv (ws:=ws) h0
 split
 ·refine ⟨?_,by show 0≤s.p+1;omega⟩
  have e:∀ b:Bool,wt (litX ⟨1,b,0,[],[],[]⟩)=12:=fun b=>by simp [litX,wt,wtL]
  dsimp only
  rw [e];omega
 rename_i h1
 rw [if_neg h1] at h
 split
 ·rename_i h2
  rw [if_pos h2] at h
  obtain ⟨q1,q2⟩:=ph_uid h0 h
  have e:∀ a b:Str,wt (litX ⟨4,false,0,[],a,b⟩)=12+a.length+b.length:=fun a b=>by simp [litX,wt,wtL];omega
  dsimp only
  rw [e]
  exact ⟨by omega,q2⟩
 rename_i h2
 rw [if_neg h2] at h
 split
 ·refine ⟨?_,by show 0≤s.p+1;omega⟩
  have e:∀ t:Str,wt (.mk 2 lv0 t [] [])=12+t.length:=fun t=>by simp [wt,wtL,lv0]
  dsimp only
  rw [e];omega
 ·rename_i h3
  rw [if_neg h3] at h
  exact absurd h (failS_e (by decide))
theorem ph_head {op:Int} {ns:List Str} {s:St} (h0:0≤s.p) (he:(headS ws op ns s).2.e=0):ph ws s.p+((headS ws op ns s).1.map fun x=>x.length+1).sum≤ph ws (headS ws op ns s).2.p+(ns.map fun x=>x.length+1).sum∧0≤(headS ws op ns s).2.p:=by
 unfold headS at he ⊢
 split
 ·rename_i ho
  rw [if_pos ho] at he
  have e1:=(Fwd.must he).1
  obtain ⟨p1,q1⟩:=ph_take h0 e1
  obtain ⟨p2,q2⟩:=ph_must q1 he
  refine ⟨?_,q2⟩
  dsimp only
  simp only [List.map_append,List.sum_append,List.map_cons,List.map_nil,List.sum_cons,List.sum_nil]
  omega
 ·exact ⟨Nat.le_refl _,h0⟩
variable {g:NT→St→Option (Ex'×St)} (hg:GoesOn g) (hG:WtG ws g)
include hg hG
theorem wt_prefix {s:St} {y:Ex'×St} (h:prefG ws g s=some y) (he:y.2.e=0) (h0:0≤s.p):wt y.1+ph ws s.p≤ph ws y.2.p∧0≤y.2.p:=by
 have p:=ph_adv (ws:=ws) h0
 have q:0≤(adv s).p:=by show 0≤s.p+1;omega
 unfold prefG at h
 split at h
 ·obtain ⟨a,h1,rfl⟩:=map_some' h
  obtain ⟨p1,q1⟩:=hG _ _ _ h1 he q
  simp only [inW] at p1
  dsimp only
  rw [wt_one,List.length_nil]
  exact ⟨by omega,q1⟩
 split at h
 ·obtain ⟨a,h1,rfl⟩:=map_some' h
  obtain ⟨p1,q1⟩:=hG _ _ _ h1 he q
  simp only [inW] at p1
  dsimp only
  rw [wt_one,List.length_nil]
  exact ⟨by omega,q1⟩
 ·obtain ⟨a,b⟩:=hG _ _ _ h he h0
  simp only [inW] at a
  exact ⟨by omega,b⟩
theorem wt_mems {x:Ex'} {s:St} {y:Ex'×St} (h:memsG ws g x s=some y) (he:y.2.e=0) (h0:0≤s.p):wt y.1+ph ws s.p≤ph ws y.2.p+wt x∧0≤y.2.p:=by
 have p:=ph_adv (ws:=ws) h0
 have q:0≤(adv s).p:=by show 0≤s.p+1;omega
 unfold memsG at h
 split at h
 ·have e1:=(hg _ _ _ h he).1
  have e2:=(Fwd.must e1).1
  obtain ⟨p1,q1⟩:=ph_take q e2
  obtain ⟨p2,q2⟩:=ph_must q1 e1
  obtain ⟨p3,q3⟩:=hG _ _ _ h he q2
  simp only [inW,wt_one] at p3
  exact ⟨by omega,q3⟩
 split at h
 ·dsimp only at h
  split at h
  ·have e1:=(hg _ _ _ h he).1
   obtain ⟨p1,q1⟩:=ph_take q e1
   obtain ⟨p3,q3⟩:=hG _ _ _ h he q1
   simp only [inW,wt_one] at p3
   exact ⟨by omega,q3⟩
  split at h
  ·simp only [Option.some.injEq] at h;subst h;exact absurd he (failS_e (by decide))
  ·obtain ⟨b,h1,h⟩:=bind_some h
   have e3:=(hg _ _ _ h he).1
   have e2:=(Fwd.must e3).1
   have e1:=(hg _ _ _ h1 e2).1
   obtain ⟨p1,q1⟩:=ph_take q (show (takeS ws (adv s) 1).2.e=0 from e1)
   have p2:=ph_adv (ws:=ws) q1
   obtain ⟨p3,q3⟩:=hG _ _ _ h1 e2 (by show 0≤(takeS ws (adv s) 1).2.p+1;omega)
   obtain ⟨p4,q4⟩:=ph_must q3 e3
   obtain ⟨p5,q5⟩:=hG _ _ _ h he q4
   simp only [inW,wt_two] at p3 p5
   exact ⟨by omega,q5⟩
 ·simp only [Option.some.injEq] at h;subst h;exact ⟨by dsimp only;omega,h0⟩
theorem wt_its {op:Int} {ns:List Str} {ks:List Ex'} {s:St} {y:Ex'×St} (h:itsG ws g op ns ks s=some y) (he:y.2.e=0) (h0:0≤s.p):wt y.1+ph ws s.p≤ph ws y.2.p+(12+wtL ks+(ns.map fun x=>x.length+1).sum)∧0≤y.2.p:=by
 unfold itsG at h
 obtain ⟨a,h1,h⟩:=bind_some h
 have ea:a.2.e=0:=by
  split at h
  ·exact isS_ok ‹_›
  ·exact (Fwd.must (hg _ _ _ h he).1).1
 have eh:=(hg _ _ _ h1 ea).1
 obtain ⟨p1,q1⟩:=ph_head (op:=op) (ns:=ns) h0 eh
 obtain ⟨p2,q2⟩:=hG _ _ _ h1 ea q1
 simp only [inW] at p2
 split at h
 ·simp only [Option.some.injEq] at h;subst h
  have p3:=ph_adv (ws:=ws) q2
  refine ⟨?_,by show 0≤a.2.p+1;omega⟩
  have e:wt (.mk op lv0 [] (ks++[a.1]) (headS ws op ns s).1)=12+(wtL ks+wt a.1)+((headS ws op ns s).1.map fun x=>x.length+1).sum:=by
   rw [wt,wtL_app,wtL,wtL];simp [lv0]
  dsimp only
  rw [e];omega
 ·have e3:=(hg _ _ _ h he).1
  obtain ⟨p3,q3⟩:=ph_must q2 e3
  obtain ⟨p4,q4⟩:=hG _ _ _ h he q3
  have e:wtL (ks++[a.1])=wtL ks+wt a.1:=by rw [wtL_app,wtL,wtL];omega
  simp only [inW,e] at p4
  exact ⟨by omega,q4⟩
theorem wt_items {op:Int} {s:St} {y:Ex'×St} (h:itemsG ws g op s=some y) (he:y.2.e=0) (h0:0≤s.p):wt y.1+ph ws s.p≤ph ws y.2.p+12∧0≤y.2.p:=by
 unfold itemsG at h
 split at h
 ·simp only [Option.some.injEq] at h;subst h
  have p:=ph_adv (ws:=ws) h0
  have e:wt (.mk op lv0 [] [] [])=12:=by simp [wt,wtL,lv0]
  refine ⟨?_,by show 0≤s.p+1;omega⟩
  dsimp only
  rw [e];omega
 ·obtain ⟨p,q⟩:=hG _ _ _ h he h0
  simp only [inW,wtL,List.map_nil,List.sum_nil] at p
  exact ⟨by omega,q⟩
theorem wt_prim {s:St} {y:Ex'×St} (h:primG ws g s=some y) (he:y.2.e=0) (h0:0≤s.p):wt y.1+ph ws s.p≤ph ws y.2.p∧0≤y.2.p:=by
 have p:=ph_adv (ws:=ws) h0
 have q:0≤(adv s).p:=by show 0≤s.p+1;omega
 unfold primG at h
 split at h
 ·simp only [Option.some.injEq] at h;subst h
  have e:∀ n:Int,wt (litX ⟨2,false,n,[],[],[]⟩)=12:=fun n=>by simp [litX,wt,wtL]
  dsimp only
  rw [e];exact ⟨by omega,q⟩
 split at h
 ·simp only [Option.some.injEq] at h;subst h
  have e:∀ t:Str,wt (litX ⟨3,false,0,t,[],[]⟩)=12+t.length:=fun n=>by simp [litX,wt,wtL]
  dsimp only
  rw [e];exact ⟨by omega,q⟩
 split at h
 ·split at h
  ·simp only [Option.some.injEq] at h;subst h
   have e:∀ t:Str,wt (.mk 3 lv0 t [] [])=12+t.length:=fun t=>by simp [wt,wtL,lv0]
   dsimp only
   rw [e];exact ⟨by omega,q⟩
  ·simp only [Option.some.injEq] at h;subst h;exact absurd he (failS_e (by decide))
 split at h
 ·simp only [Option.some.injEq] at h;subst h;exact wt_name h0 he
 split at h
 ·obtain ⟨a,h1,rfl⟩:=map_some' h
  have ea:=(Fwd.must he).1
  obtain ⟨p1,q1⟩:=hG _ _ _ h1 ea q
  obtain ⟨p2,q2⟩:=ph_must q1 he
  simp only [inW] at p1
  exact ⟨by dsimp only;omega,q2⟩
 split at h
 ·obtain ⟨p1,q1⟩:=wt_items hg hG h he q
  exact ⟨by omega,q1⟩
 split at h
 ·obtain ⟨p1,q1⟩:=wt_items hg hG h he q
  exact ⟨by omega,q1⟩
 ·simp only [Option.some.injEq] at h;subst h;exact absurd he (failS_e (by decide))
theorem inW_low (k:Nat):inW (lowN k)=0:=by
 match k with
 | 0=>rfl
 | 1=>rfl
 | 2=>rfl
 | k+3=>rfl
theorem wt_step {nt:NT} {s:St} {y:Ex'×St} (h:stepG ws g nt s=some y) (he:y.2.e=0) (h0:0≤s.p):wt y.1+ph ws s.p≤ph ws y.2.p+inW nt∧0≤y.2.p:=by
 cases nt with
 | expr=>
  simp only [stepG] at h
  split at h
  ·simp only [Option.some.injEq] at h;subst h;exact absurd he (failS_e (by decide))
  ·obtain ⟨b,h2,rfl⟩:=map_some' h
   have:=wt_choice hg hG h2 he (show 0≤(inn s).p from h0)
   exact this
 | lev k=>
  simp only [stepG] at h
  obtain ⟨a,h1,h⟩:=bind_some h
  have f1:=(hg _ _ _ h he).1
  obtain ⟨p1,q1⟩:=hG _ _ _ h1 f1 h0
  obtain ⟨p2,q2⟩:=hG _ _ _ h he q1
  rw [inW_low hg hG] at p1
  simp only [inW] at p2 ⊢
  exact ⟨by omega,q2⟩
 | rows k x=>
  simp only [stepG] at h
  split at h
  ·simp only [Option.some.injEq] at h;subst h;exact ⟨by simp only [inW];omega,h0⟩
  ·obtain ⟨a,h1,h⟩:=bind_some h
   have f1:=(hg _ _ _ h he).1
   have p:=ph_adv (ws:=ws) h0
   obtain ⟨p1,q1⟩:=hG _ _ _ h1 f1 (by show 0≤s.p+1;omega)
   obtain ⟨p2,q2⟩:=hG _ _ _ h he q1
   rw [inW_low hg hG] at p1
   simp only [inW,wt_two] at p2 ⊢
   exact ⟨by omega,q2⟩
 | rel=>exact wt_rel hg hG h he h0
 | unary=>
  simp only [stepG] at h
  split at h
  ·simp only [Option.some.injEq] at h;subst h;exact absurd he (failS_e (by decide))
  ·obtain ⟨b,h2,rfl⟩:=map_some' h
   have:=wt_prefix hg hG h2 he (show 0≤(inn s).p from h0)
   exact this
 | member=>
  simp only [stepG] at h
  obtain ⟨a,h1,h⟩:=bind_some h
  have f1:=(hg _ _ _ h he).1
  obtain ⟨p1,q1⟩:=hG _ _ _ h1 f1 h0
  obtain ⟨p2,q2⟩:=hG _ _ _ h he q1
  simp only [inW] at p1 p2 ⊢
  exact ⟨by omega,q2⟩
 | mems x=>exact wt_mems hg hG h he h0
 | prim=>exact wt_prim hg hG h he h0
 | its op ns ks=>exact wt_its hg hG h he h0
end
theorem G_wt (ws:Ws):∀ n,WtG ws (G ws n)
 | 0=>fun _ _ _ h he=>by obtain ⟨h1,rfl⟩:=G_zero h;exact absurd he h1
 | n+1=>fun nt s y h he h0=>by
  rw [G_succ] at h
  split at h
  ·exact wt_step (G_goes ws n) (G_wt ws n) h he h0
  ·rename_i hs
   simp only [Option.some.injEq] at h;subst h;exact absurd he hs
theorem qX_len (s:Str):(qX s).1.length≤(qX s).2:=by
 unfold qX
 split
 ·simp
 ·split
  ·simp
  ·rename_i h
   have:=unquote_le h
   rw [List.length_take] at this
   simp only
   omega
theorem tok_tx {s:Str} {w:Wd} {m:Nat} (h:tok s=.ok (w,m)):w.2.1.length≤m:=by
 unfold tok at h
 split at h
 ·cases h
 ·split at h
  ·cases h
  ·simp only [Except.ok.injEq,Prod.mk.injEq] at h
   obtain ⟨rfl,rfl⟩:=h
   unfold oneX
   split
   ·exact Nat.le_refl _
   split
   ·exact Nat.le_refl _
   split
   ·exact qX_len s
   split
   ·split
    ·simp
    ·simp
   split
   ·simp
   split
   ·simp
   ·exact Nat.le_refl _
def sumW (l:Ws):Nat:=(l.map fun w=>24+w.1.2.1.length).sum
theorem w1_sum:∀ (n a:Nat) (s:Str) (l:List (Wd×Nat)),w1 n a s=.ok l→sumW l≤25 * s.length+24
 | 0,_,s,l,h=>by
  rw [w1] at h;injection h with h;subst h;simp [sumW]
 | n + 1,a,s,l,h=>by
  rw [w1] at h
  split at h
  ·injection h with h;subst h;simp [sumW]
  ·rename_i hne
   split at h
   ·cases h
   ·rename_i w m hk
    split at h
    ·cases h
    ·rename_i l' hl
     injection h with h;subst h
     have h1:=tok_len hk
     have h2:=tok_le hne hk
     have h3:=tok_tx hk
     have ih:=w1_sum n _ _ l' hl
     rw [List.length_drop] at ih
     unfold sumW at ih ⊢
     rw [List.map_cons,List.sum_cons]
     dsimp only
     omega
theorem phN_le (ws:Ws):∀ n,n≤ws.length→phN ws n≤sumW (ws.take n)
 | 0,_=>by simp [phN]
 | n+1,h=>by
  have ih:=phN_le ws n (by omega)
  have e:ws.take (n+1)=ws.take n++[ws[n]]:=by rw [List.take_add_one,List.getElem?_eq_getElem (by omega)];rfl
  rw [phN,e]
  unfold sumW at ih ⊢
  rw [List.map_append,List.sum_append,wdAt_in (by omega),List.getD_eq_getElem?_getD,List.getElem?_eq_getElem (by omega)]
  simp only [Option.getD_some,List.map_cons,List.map_nil,List.sum_cons,List.sum_nil]
  omega
theorem sumW_take (ws:Ws) (n:Nat):sumW (ws.take n)≤sumW ws:=by
 have:sumW ws=sumW (ws.take n)+sumW (ws.drop n):=by
  unfold sumW
  rw [← List.sum_append,← List.map_append,List.take_append_drop]
 omega
theorem words_sum {s:Str} {l:Ws} (h:words s=.ok l):sumW l≤25 * s.length+24:=by
 have:=w1_sum _ _ _ l h
 rw [List.length_drop] at this
 omega
theorem words_wsL {s:Str} {l:Ws} (h:words s=.ok l):WsL l:=fun w hw=>w1T_ok _ _ _ _ h w hw
theorem pol_at {F:Base} {a:Option Addr} {i:Nat} {x:Pol} {va vc:Value} (h:Cl F a 21 i (polC x v0 va v0 vc)):∃ b off,a=some ⟨b,off,none⟩ ∧
  (∀ H,ldV F H 1 false (.pointer (some ⟨b,off+i * 21,none⟩))=some (True,.string (bs x.id)))∧(∀ H,ldV F H 1 false (.pointer (some ⟨b,off+i * 21+1,none⟩))=some (True,.bool x.permit))∧(∀ H,ldV F H 1 false (.pointer (some ⟨b,off+i * 21+20,none⟩))=some (True,vc)) ∧
  (∀ H,ldV F H 6 true (.pointer (some ⟨b,off+i * 21+2,none⟩))=some (True,scV x.p v0))∧(∀ H,ldV F H 6 true (.pointer (some ⟨b,off+i * 21+8,none⟩))=some (True,scV x.a va))∧(∀ H,ldV F H 6 true (.pointer (some ⟨b,off+i * 21+14,none⟩))=some (True,scV x.r v0)):=by
 obtain ⟨b,off,rfl,l1,l2⟩:=h.all
 exact ⟨b,off,rfl,l2 0 (by decide),l2 1 (by decide),l2 20 (by decide),l1 2 6 (by decide),l1 8 6 (by decide),l1 14 6 (by decide)⟩
theorem cond_at {F:Base} {a:Option Addr} {i:Nat} {w:Bool} {cs:List Value} (h:Cl F a 13 i (.bool w::cs)):∃ b off,a=some ⟨b,off,none⟩ ∧
  (∀ H,ldV F H 1 false (.pointer (some ⟨b,off+i * 13,none⟩))=some (True,.bool w))∧(∀ H,ldV F H 12 true (.pointer (some ⟨b,off+i * 13+1,none⟩))=some (True,.agg cs.toArray)):=by
 have hl:=h.len
 obtain ⟨b,off,rfl,l1,l2⟩:=h.all
 refine ⟨b,off,rfl,l2 0 (by decide),fun H=>?_⟩
 rw [l1 1 12 (by decide) H]
 simp only [List.drop_succ_cons,List.drop_zero]
 rw [List.take_of_length_le (Nat.le_of_eq (by simpa using hl))]
theorem uid_both2 (x:Str×Str):(x.1==x.1&&x.2==x.2)=true:=by simp
theorem samesc_pure (F:Base) (x:Scp) {v1 v2:Value} (h1:SlU F v1 x.list) (h2:SlU F v2 x.list):PureV Tryz.prog F 22 #[scV x v1,scV x v2] (.bool true):=by
 obtain ⟨a1,c1,rfl,hl1,hm1,k1⟩:=h1
 obtain ⟨a2,c2,rfl,-,hm2,k2⟩:=h2
 refine pureV_of_svc mixed Tryz.func22 low22 (Nat.le_of_ble_eq_true rfl) (fun w0=>?_)
 have hl:(x.list.map uidC).length≤9223372036854775807:=by omega
 generalize hN:(x.list.map uidC).length=N at *
 unfold scV
 have ub:=uid_both2 (x.ut,x.ui)
 dsimp only at ub
 have e1:(x.ty != x.ty)=false:=by simp
 have e2:(x.kind != x.kind)=false:=by simp
 simp only [*,fu22,↓ZD,ZW,RO,simprocAttr]
 refine NewB.n ?_
 rintro b2 - hF2
 simp only [*,↓ZD,ZW,RO,simprocAttr]
 refine NewB.n ?_
 rintro b3 ⟨_,_,-⟩ hF3
 simp only [*,bne_self_eq_false,Bool.or_self,eq_self,beq_self_eq_true,↓ZD,ZW,RO,simprocAttr]
 refine LoopL.inv (α:=Nat) (fun i=>i≤N) (fun i=>[(2,some (.pointer (some ⟨b2,0,none⟩))),(3,some (.pointer (some ⟨b3,0,none⟩))),(5,some (.int .i64 i))])
  (fun i=>[(b3,ScO x (.slice a2 N c2)),(b2,ScO x (.slice a1 N c1))]) (fun i=>N - i) 0 (Nat.zero_le _) (by simp only [*,↓ZD,ZW,RO,simprocAttr]) (by simp only [*,↓ZD,ZW,RO,simprocAttr]) ?_
 intro i hi
 by_cases hlt:i < N
 ·have hd:decide ((i:Int) < (N:Int))=true:=by simp;omega
  obtain ⟨u,hu⟩:∃ u,x.list[i]?=some u:=⟨_,List.getElem?_eq_getElem (by rw [List.length_map] at hN;omega)⟩
  have hg:(x.list.map uidC)[i]?=some (uidC u):=by rw [List.getElem?_map,hu];rfl
  obtain ⟨ba,oa,rfl,hla⟩:=(k1 i _ hg).ldn
  obtain ⟨bb,ob,rfl,hlb⟩:=(k2 i _ hg).ldn
  have ub2:=uid_both2 u
  simp only [*,↓ZD,ZW,RO,simprocAttr]
  refine conj.of (by omega) ?_
  simp only [*,Int.toNat_natCast,↓hla,↓hlb,↓ZD,ZW,RO,simprocAttr]
  refine conj.of (by omega) ?_
  simp (disch:=first | assumption | exact .symm ‹_› | omega) only [*,Int.toNat_natCast,↓hla,↓hlb,↓ZD,ZW,RO,simprocAttr]
  refine invK.on (i+1) (by omega) (by omega) (by simp only [*,↓ZD,ZW,RO,simprocAttr];rfl) (by simp only [*,↓ZD,ZW,RO,simprocAttr])
 ·have hd:decide ((i:Int) < (N:Int))=false:=by simp;omega
  obtain rfl:i=N:=by omega
  simp only [*,↓ZD,ZW,RO,simprocAttr]
theorem samesc0 (F:Base) (x:Scp):PureV Tryz.prog F 22 #[scV x v0,scV x v0] (.bool true):=samesc_pure F ⟨x.kind,x.ty,x.ut,x.ui,x.slot,[]⟩ SlU.nil SlU.nil
set_option maxHeartbeats 4000000 in
theorem sameps_pure (F:Base) (xs:List Pol) {v1 v2:Value} (h1:SlP F v1 xs) (h2:SlP F v2 xs):PureV Tryz.prog F 12 #[v1,v2] (.bool true):=by
 obtain ⟨gs1,⟨a1,c1,rfl,hl1,hm1,k1⟩,r1⟩:=h1
 obtain ⟨gs2,⟨a2,c2,rfl,-,hm2,k2⟩,r2⟩:=h2
 have e1:=r1.len
 have e2:=r2.len
 have hl:xs.length≤9223372036854775807:=by omega
 rw [e1,e2]
 clear e1 e2 hl1
 refine pureV_of_svc (args:=[.slice a1 xs.length c1,.slice a2 xs.length c2]) mixed Tryz.func12 low12 (Nat.le_of_ble_eq_true rfl) (fun w0=>?_)
 simp only [*,fu12,bne_self_eq_false,↓ZD,ZW,RO,simprocAttr]
 refine LoopL.inv (α:=Nat) (fun i=>i≤xs.length) (fun i=>[(0,some (.slice a1 xs.length c1)),(1,some (.slice a2 xs.length c2)),(5,some (.int .i64 i))])
  (fun i=>[]) (fun i=>xs.length - i) 0 (Nat.zero_le _) (by simp only [*,↓ZD,ZW,RO,simprocAttr]) (by simp only [*,↓ZD,ZW,RO,simprocAttr]) ?_
 intro i hi
 by_cases hlt:i < xs.length
 ·have hd:decide ((i:Int) < (xs.length:Int))=true:=by simp;omega
  have hx:xs[i]?=some xs[i]:=List.getElem?_eq_getElem hlt
  generalize xs[i]=x at *
  obtain ⟨g1,hg1,va1,vc1,rfl,u1,s1⟩:=r1.at hx
  obtain ⟨g2,hg2,va2,vc2,rfl,u2,s2⟩:=r2.at hx
  obtain ⟨gc1,⟨ac1,cc1,rfl,hcc1,hcm1,kc1⟩,rc1⟩:=s1
  obtain ⟨gc2,⟨ac2,cc2,rfl,-,hcm2,kc2⟩,rc2⟩:=s2
  have el1:=rc1.len
  have el2:=rc2.len
  obtain ⟨ba,oa,rfl,A1,A2,A3,A4,A5,A6⟩:=pol_at (k1 i _ hg1)
  obtain ⟨bb,ob,rfl,B1,B2,B3,B4,B5,B6⟩:=pol_at (k2 i _ hg2)
  simp only [*,↓ZD,ZW,RO,simprocAttr]
  refine conj.of (by omega) ?_
  simp only [*,Int.toNat_natCast,↓ZD,ZW,RO,simprocAttr]
  refine conj.of (by omega) ?_
  simp only [*,Int.toNat_natCast,↓ZD,ZW,RO,simprocAttr]
  refine CallQ.of _ (samesc0 _ x.p) ?_
  simp only [*,Int.toNat_natCast,↓ZD,ZW,RO,simprocAttr]
  refine conj.of (by omega) ?_
  simp only [*,Int.toNat_natCast,↓ZD,ZW,RO,simprocAttr]
  refine conj.of (by omega) ?_
  simp only [*,Int.toNat_natCast,↓ZD,ZW,RO,simprocAttr]
  refine CallQ.of _ (samesc_pure _ x.a (u1.mono le_up) (u2.mono le_up)) ?_
  simp only [*,Int.toNat_natCast,↓ZD,ZW,RO,simprocAttr]
  refine conj.of (by omega) ?_
  simp only [*,Int.toNat_natCast,↓ZD,ZW,RO,simprocAttr]
  refine conj.of (by omega) ?_
  simp only [*,Int.toNat_natCast,↓ZD,ZW,RO,simprocAttr]
  refine CallQ.of _ (samesc0 _ x.r) ?_
  simp only [*,Int.toNat_natCast,bne_self_eq_false,eq_self,beq_self_eq_true,↓ZD,ZW,RO,simprocAttr]
  repeat' (refine conj.of (by omega) ?_;simp only [*,Int.toNat_natCast,bne_self_eq_false,eq_self,beq_self_eq_true,Bool.or_self,↓ZD,ZW,RO,simprocAttr])
  have hcl:x.conds.length≤9223372036854775807:=by omega
  refine LoopL.inv (α:=Nat) (fun j=>j≤x.conds.length) (fun j=>[(0,some (.slice (some ⟨ba,oa,none⟩) xs.length c1)),(1,some (.slice (some ⟨bb,ob,none⟩) xs.length c2)),(5,some (.int .i64 i)),(9,some (.int .i64 j))])
   (fun j=>[]) (fun j=>x.conds.length - j) 0 (Nat.zero_le _) (by simp only [*,↓ZD,ZW,RO,simprocAttr]) (by simp only [*,↓ZD,ZW,RO,simprocAttr]) ?_
  intro j hj
  by_cases hlj:j < x.conds.length
  ·have hdj:decide ((j:Int) < (x.conds.length:Int))=true:=by simp;omega
   have hy:x.conds[j]?=some x.conds[j]:=List.getElem?_eq_getElem hlj
   generalize x.conds[j]=y at *
   obtain ⟨y1,hy1,cs1,rfl,ry1⟩:=rc1.at hy
   obtain ⟨y2,hy2,cs2,rfl,ry2⟩:=rc2.at hy
   obtain ⟨bc,oc,rfl,C1,C2⟩:=cond_at (kc1 j _ hy1)
   obtain ⟨bd,od,rfl,D1,D2⟩:=cond_at (kc2 j _ hy2)
   simp only [*,↓ZD,ZW,RO,simprocAttr]
   refine conj.of (by omega) ?_
   simp only [*,Int.toNat_natCast,↓ZD,ZW,RO,simprocAttr]
   repeat' (refine conj.of (by omega) ?_;simp only [*,Int.toNat_natCast,bne_self_eq_false,eq_self,beq_self_eq_true,Bool.or_self,↓ZD,ZW,RO,simprocAttr])
   refine CallQ.of _ (same_pure _ (ry1.mono le_up) (ry2.mono le_up)) ?_
   simp only [*,Int.toNat_natCast,bne_self_eq_false,eq_self,beq_self_eq_true,Bool.or_self,↓ZD,ZW,RO,simprocAttr]
   repeat' (refine conj.of (by omega) ?_;simp only [*,Int.toNat_natCast,bne_self_eq_false,eq_self,beq_self_eq_true,Bool.or_self,↓ZD,ZW,RO,simprocAttr])
   simp (disch:=first | assumption | exact .symm ‹_› | omega) only [*,↓ZD,ZW,RO,simprocAttr]
   refine invK.on (j+1) (by omega) (by omega) (by simp only [*,↓ZD,ZW,RO,simprocAttr];rfl) (by simp only [*,↓ZD,ZW,RO,simprocAttr])
  ·have hdj:decide ((j:Int) < (x.conds.length:Int))=false:=by simp;omega
   obtain rfl:j=x.conds.length:=by omega
   simp only [*,↓ZD,ZW,RO,simprocAttr]
   refine conj.of (by omega) ?_
   simp only [*,Int.toNat_natCast,↓ZD,ZW,RO,simprocAttr]
   simp (disch:=first | assumption | exact .symm ‹_› | omega) only [*,↓ZD,ZW,RO,simprocAttr]
   refine invK.on (i+1) (by omega) (by omega) (by simp only [*,↓ZD,ZW,RO,simprocAttr];rfl) (by simp only [*,↓ZD,ZW,RO,simprocAttr])
 ·have hd:decide ((i:Int) < (xs.length:Int))=false:=by simp;omega
  obtain rfl:i=xs.length:=by omega
  simp only [*,↓ZD,ZW,RO,simprocAttr]
inductive ScT:Scp→Prop
 | any:ScT sc0
 | slot {k:Int}:k=1∨k=2→ScT ⟨k,[],[],[],true,[]⟩
 | uid {k:Int} {t i:Str}:k=1∨k=2→okPath t=true→ScT ⟨k,[],t,i,false,[]⟩
 | ty {t:Str}:okPath t=true→ScT ⟨3,t,[],[],false,[]⟩
 | tySlot {t:Str}:okPath t=true→ScT ⟨4,t,[],[],true,[]⟩
 | tyUid {t u i:Str}:okPath t=true→okPath u=true→ScT ⟨4,t,u,i,false,[]⟩
theorem uidP_told {ws:Ws} (hT:WsL ws) {s:St} (h:(uidP ws s).2.e=0):okPath (uidP ws s).1.1=true:=by
 unfold uidP at h ⊢
 by_cases h0:s.e=0
 ·rw [if_pos h0] at h ⊢
  by_cases h1:(uidR ws s.p).2.2.1=0
  ·rw [if_pos h1] at h ⊢
   unfold uidR at h1 ⊢
   by_cases h2:(uidS ws (st0 s.p)).2.e=0
   ·rw [if_pos h2];exact uid_told hT h2
   ·rw [if_neg h2] at h1;exact absurd h1 h2
  ·rw [if_neg h1] at h;exact absurd h h1
 ·rw [if_neg h0] at h;exact absurd h h0
theorem placeP_told {ws:Ws} (hT:WsL ws) {s:St} {nm:Str} {k:Int} (hk:k=1∨k=2) (h:(placeP ws s (kindS k []) nm).2.e=0):ScT (placeP ws s (kindS k []) nm).1:=by
 unfold placeP at h ⊢
 split
 ·exact .slot hk
 ·rename_i hc
  rw [if_neg hc] at h
  exact .uid hk (uidP_told hT h)
theorem placeP_told4 {ws:Ws} (hT:WsL ws) {s:St} {nm t:Str} (ht:okPath t=true) (h:(placeP ws s (kindS 4 t) nm).2.e=0):ScT (placeP ws s (kindS 4 t) nm).1:=by
 unfold placeP at h ⊢
 split
 ·exact .tySlot ht
 ·rename_i hc
  rw [if_neg hc] at h
  exact .tyUid ht (uidP_told hT h)
theorem scopeP_told {ws:Ws} (hT:WsL ws) {s:St} {nm:Str} (h:(scopeP ws s nm).2.e=0):ScT (scopeP ws s nm).1:=by
 unfold scopeP at h ⊢
 dsimp only at h ⊢
 split
 ·rename_i h1
  rw [if_pos h1] at h
  exact placeP_told hT (.inl rfl) h
 rename_i h1
 rw [if_neg h1] at h
 split
 ·rename_i h2
  rw [if_pos h2] at h
  exact placeP_told hT (.inr rfl) h
 rename_i h2
 rw [if_neg h2] at h
 split
 ·rename_i h3
  rw [if_pos h3] at h
  split
  ·rename_i h4
   rw [if_pos h4] at h
   exact placeP_told4 hT (path_told hT (isS_ok h4)) h
  ·rename_i h4
   rw [if_neg h4] at h
   exact .ty (path_told hT h)
 ·exact .any
inductive AcT:Scp→Prop
 | any:AcT sc0
 | uid {k:Int} {t i:Str}:k=1∨k=2→okPath t=true→AcT ⟨k,[],t,i,false,[]⟩
 | list {l:List (Str×Str)}:(∀ u∈l,okPath u.1=true)→AcT ⟨5,[],[],[],false,l⟩
theorem uidsF_told {ws:Ws} (hT:WsL ws) (hu:∀ s:St,(uidP ws s).2.e=0→s.e=0):∀ (n:Nat) (s:St) (l:List (Str×Str)),(uidsF ws n s l).2.e=0→(∀ u∈l,okPath u.1=true)→∀ u∈(uidsF ws n s l).1,okPath u.1=true
 | 0,s,l,_,hl=>hl
 | n+1,s,l,h,hl=>by
  rw [uidsF] at h ⊢
  split
  ·rename_i hi
   rw [if_pos hi] at h
   refine uidsF_told hT hu n _ _ h fun u hu=>?_
   rcases List.mem_append.1 hu with hu | hu
   ·exact hl u hu
   ·rw [List.mem_singleton.1 hu];exact uidP_told hT (isS_ok hi)
  ·rename_i hi
   rw [if_neg hi] at h
   intro u hu
   rcases List.mem_append.1 hu with hu | hu
   ·exact hl u hu
   ·rw [List.mem_singleton.1 hu];exact uidP_told hT h
theorem actionP_told {ws:Ws} (hT:WsL ws) {s:St} (hu:∀ s:St,(uidP ws s).2.e=0→s.e=0) (h:(actionP ws s).2.e=0):AcT (actionP ws s).1:=by
 unfold actionP at h ⊢
 dsimp only at h ⊢
 split
 ·rename_i h1
  rw [if_pos h1] at h
  exact .uid (.inl rfl) (uidP_told hT h)
 rename_i h1
 rw [if_neg h1] at h
 split
 ·exact .any
 rename_i h2
 rw [if_neg h2] at h
 split
 ·rename_i h3
  rw [if_pos h3] at h
  exact .uid (.inr rfl) (uidP_told hT h)
 rename_i h3
 rw [if_neg h3] at h
 split
 ·exact .list fun u hu=>absurd hu (by simp)
 ·rename_i h4
  rw [if_neg h4] at h
  exact .list (uidsF_told hT hu _ _ _ (Fwd.must h).1 fun u hu=>absurd hu (by simp))
theorem sc_ok {x:Scp} {nm:Str} (h:ScT x) (hn:nm≠actN):scopeOk x nm=true:=by
 have hb:(nm==actN)=false:=by simpa using hn
 cases h with
 | any=>simp [scopeOk,midOk,sc0,hb]
 | slot hk=>rcases hk with rfl | rfl <;> simp [scopeOk,midOk,placeOk,hb,hn]
 | uid hk ht=>rcases hk with rfl | rfl <;> simp [scopeOk,midOk,placeOk,hb,ht]
 | ty ht=>simp [scopeOk,midOk,placeOk,hb,hn,ht]
 | tySlot ht=>simp [scopeOk,midOk,placeOk,hb,hn,ht]
 | tyUid ht hu=>simp [scopeOk,midOk,placeOk,hb,hn,ht,hu]
theorem ac_ok {x:Scp} (h:AcT x):scopeOk x actN=true:=by
 cases h with
 | any=>simp [scopeOk,midOk,sc0]
 | uid hk ht=>rcases hk with rfl | rfl <;> simp [scopeOk,midOk,placeOk,ht]
 | list hl=>simpa [scopeOk,midOk] using hl
theorem uid_lexs {ty id:Str} (h:okPath ty=true):∃ ks,TyK ty ks∧Lexs (uidT ty id) (ks++[mk cK,(3,id,0)]) any8:=by
 obtain ⟨ks,hk⟩:=path_tyk h
 refine ⟨ks,hk,?_⟩
 have h2:Lexs ([58,58]++quote id) [mk cK,(3,id,0)] any8:=(Lexs.mark2 (by decide)).app' (Lexs.quoted id)
 exact (path_lexs hk.1).then h2 (by decide)
def opT (k:Int):Str:=if k=1 then [32,61,61,32] else [32,105,110,32]
def opK (k:Int):Wd:=if k=1 then mk [61,61] else nm [105,110]
theorem word_lexs {u:Str} (hu:nameB u=true) {Q:Str} {kq:List Wd} {ok:UInt8→Bool} (h:Lexs Q kq ok):Lexs (32::(u++32::Q)) (nm u::kq) ok:=
 Lexs.sp1 (Lexs.word hu h.sp1 (by decide))
theorem op_lexs {k:Int} (hk:k=1∨k=2) {Q:Str} {kq:List Wd} {ok:UInt8→Bool} (h:Lexs Q kq ok):Lexs (opT k++Q) (opK k::kq) ok:=by
 rcases hk with rfl | rfl
 ·exact Lexs.sp1 (Q:=[61,61]++32::Q) ((Lexs.mark2 (by decide)).app' h.sp1)
 ·exact word_lexs (u:=[105,110]) (by decide) h
theorem op_hd {k:Int} (hk:k=1∨k=2) (Q:Str):∃ r,opT k++Q=32::r:=by
 rcases hk with rfl | rfl <;> exact ⟨_,rfl⟩
section
variable {ws:Ws} {s:St} {R:List Wd} {w:Wd}
theorem uidP_go {ty id:Str} {ks:List Wd} (hk:TyK ty ks) (h0:0≤s.p) (h:At ws s (ks++mk cK::(3,id,0)::R)):uidP ws s=((ty,id),mvn s (ks.length+2)):=by
 have h':At ws (st0 s.p) (ks++mk cK::(3,id,0)::R):=⟨rfl,h.2⟩
 have aE:At ws (mvn (st0 s.p) ks.length) (mk cK::(3,id,0)::R):=h'.dropN
 have hr:=path_read (s:=st0 s.p) hk h0 h' (pathL_end2 (by show 0≤s.p+(ks.length:Int);omega) aE)
 have hu:uidS ws (st0 s.p)=((ty,id),mvn (st0 s.p) (ks.length+2)):=by
  unfold uidS
  rw [hr]
  dsimp only
  rw [aE.must (.inl rfl),aE.adv.take (k':=3) rfl,adv_mvn,adv_mvn,mvn_mvn,mvn_mvn]
 have hR:uidR ws s.p=((ty,id),s.p+((ks.length+2:Nat):Int),0,0):=by
  unfold uidR
  rw [hu,if_pos (show (mvn (st0 s.p) (ks.length+2)).e=0 from rfl)]
  rfl
 unfold uidP
 rw [if_pos h.1,hR,if_pos rfl]
 rfl
structure PlW (n:Str) (sl:Bool) (ut ui:Str) (K:List Wd):Prop where
 lx:Lexs (if sl then 63::n else uidT ut ui) K nLD
 go:∀ (ws:Ws) (s:St) (R:List Wd) (k:Int) (ty:Str),0≤s.p→At ws s (K++R)→placeP ws s (kindS k ty) n=(⟨k,ty,ut,ui,sl,[]⟩,mvn s K.length)
theorem plw_slot {n:Str} (hn:nameB n=true):PlW n true [] [] [(4,n,0)]:=⟨Lexs.slot hn,fun ws s R k ty h0 h=>by
 have h:At ws s ((4,n,0)::R):=h
 unfold placeP
 rw [if_pos ⟨h.1,by rw [h.wk];rfl⟩,if_pos h.wtx]
 rfl⟩
theorem plw_uid {n ut:Str} (ui:Str) (h:okPath ut=true):∃ K,PlW n false ut ui K:=by
 obtain ⟨ks,hk,hl⟩:=uid_lexs (id:=ui) h
 refine ⟨_,hl.any,fun ws s R k ty h0 hA=>?_⟩
 rw [List.append_assoc] at hA
 have hA:At ws s (ks++mk cK::(3,ui,0)::R):=hA
 have hw:wk ws s≠4:=by
  obtain ⟨_,t,K,rfl,_⟩:=hk
  have hA:At ws s (nm t::(K++mk cK::(3,ui,0)::R)):=hA
  rw [hA.wk];exact (by decide:((1:Nat):Int)≠4)
 unfold placeP
 rw [if_neg (fun h=>hw h.2),uidP_go hk h0 hA,List.length_append]
 rfl
theorem scope_one {n ut ui:Str} {sl:Bool} {k:Int} {K:List Wd} (hk:k=1∨k=2) (hp:PlW n sl ut ui K) (h0:0≤s.p) (h:At ws s (nm n::opK k::(K++R))):scopeP ws s n=(⟨k,[],ut,ui,sl,[]⟩,mvn s (K.length+2)):=by
 have a1:=h.adv
 have a2:=a1.adv
 have e:mvn (adv (adv s)) K.length=mvn s (K.length+2):=by rw [adv_mvn,adv_mvn,mvn_mvn,mvn_mvn];congr 1;omega
 have g:∀ k,placeP ws (adv (adv s)) (kindS k []) n=(⟨k,[],ut,ui,sl,[]⟩,mvn s (K.length+2)):=fun k=>by rw [hp.go ws _ R k [] (by show 0≤s.p+1+1;omega) a2,e]
 unfold scopeP
 dsimp only
 rw [h.must (.inr rfl)]
 rcases hk with rfl | rfl
 ·rw [a1.is,if_pos (by decide),g]
 ·rw [a1.is,a1.is,if_neg (by decide),if_pos (by decide),g]
theorem scope_is {n t:Str} {ks:List Wd} (hk:TyK t ks) (h0:0≤s.p) (h:At ws s (nm n::nm [105,115]::(ks++w::R))) (h1:wIs w cK=false) (h2:wIs w [105,110]=false):scopeP ws s n=(⟨3,t,[],[],false,[]⟩,mvn s (ks.length+2)):=by
 have a1:=h.adv
 have a2:=a1.adv
 have q:0≤(adv (adv s)).p:=by show 0≤s.p+1+1;omega
 have a3:At ws (mvn (adv (adv s)) ks.length) (w::R):=a2.dropN
 have e:mvn (adv (adv s)) ks.length=mvn s (ks.length+2):=by rw [adv_mvn,adv_mvn,mvn_mvn,mvn_mvn];congr 1;omega
 have hr:=path_read hk q a2 (pathL_end1 (by show 0≤(adv (adv s)).p+(ks.length:Int);omega) a3 h1)
 unfold scopeP
 dsimp only
 rw [h.must (.inr rfl),a1.is,a1.is,a1.is,if_neg (by decide),if_neg (by decide),if_pos (by decide),hr]
 dsimp only
 rw [a3.wis,h2,if_neg (by decide),e]
 rfl
theorem scope_isin {n t ut ui:Str} {sl:Bool} {ks K:List Wd} (hk:TyK t ks) (hp:PlW n sl ut ui K) (h0:0≤s.p) (h:At ws s (nm n::nm [105,115]::(ks++nm [105,110]::(K++R)))):scopeP ws s n=(⟨4,t,ut,ui,sl,[]⟩,mvn s (ks.length+K.length+3)):=by
 have a1:=h.adv
 have a2:=a1.adv
 have q:0≤(adv (adv s)).p:=by show 0≤s.p+1+1;omega
 have a3:At ws (mvn (adv (adv s)) ks.length) (nm [105,110]::(K++R)):=a2.dropN
 have hr:=path_read hk q a2 (pathL_end1 (by show 0≤(adv (adv s)).p+(ks.length:Int);omega) a3 (by decide))
 have e:mvn (adv (mvn (adv (adv s)) ks.length)) K.length=mvn s (ks.length+K.length+3):=by simp only [adv_mvn,mvn_mvn];congr 1;omega
 unfold scopeP
 dsimp only
 rw [h.must (.inr rfl),a1.is,a1.is,a1.is,if_neg (by decide),if_neg (by decide),if_pos (by decide),hr]
 dsimp only
 rw [a3.wis,if_pos (by decide),hp.go ws _ R 4 t (by show 0≤(adv (adv s)).p+(ks.length:Int)+1;omega) a3.adv,e]
end
def endW (w:Wd):Prop:=w=mk [44]∨w=mk [41]
theorem endW.no {w:Wd} (h:endW w):wIs w cK=false∧wIs w [105,110]=false:=by
 rcases h with rfl | rfl <;> exact ⟨by decide,by decide⟩
theorem sc_words {x:Scp} {n:Str} (h:ScT x) (hn:n=prN∨n=reN):∃ K,Lexs (scopeT x n) K nLD∧∀ (ws:Ws) (s:St) (w:Wd) (R:List Wd),0≤s.p→endW w→At ws s (K++w::R)→scopeP ws s n=(x,mvn s K.length):=by
 have hb:nameB n=true:=by rcases hn with rfl | rfl <;> decide
 have ha:n≠actN:=by rcases hn with rfl | rfl <;> decide
 have one:∀ {k:Int} {sl:Bool} {ut ui:Str} {K:List Wd},(k=1∨k=2)→PlW n sl ut ui K→∃ K,Lexs (scopeT ⟨k,[],ut,ui,sl,[]⟩ n) K nLD∧∀ (ws:Ws) (s:St) (w:Wd) (R:List Wd),0≤s.p→endW w→At ws s (K++w::R)→scopeP ws s n=(⟨k,[],ut,ui,sl,[]⟩,mvn s K.length):=fun {k sl ut ui K} hk hp=>by
  refine ⟨nm n::opK k::K,?_,fun ws s w R h0 hw hA=>scope_one hk hp h0 hA⟩
  have e:scopeT ⟨k,[],ut,ui,sl,[]⟩ n=n++(opT k++if sl then 63::n else uidT ut ui):=by
   rcases hk with rfl | rfl <;> rfl
  rw [e]
  obtain ⟨r,er⟩:=op_hd hk (if sl then 63::n else uidT ut ui)
  have h2:=op_lexs hk hp.lx
  rw [er] at h2 ⊢
  exact Lexs.word hb h2 (by decide)
 have isl:∀ {t Q:Str} {ks kq:List Wd},PathK t ks→Lexs Q kq nLD→(∃ r,Q=32::r)∨(Q=[]∧kq=[])→Lexs (n++32::105::115::32::(t++Q)) (nm n::nm [105,115]::(ks++kq)) nLD:=fun {t Q ks kq} hk hQ hr=>by
  have h1:Lexs (t++Q) (ks++kq) nLD:=by
   rcases hr with ⟨r,rfl⟩ | ⟨rfl,rfl⟩
   ·exact (path_lexs hk).then hQ (by decide)
   ·rw [List.append_nil,List.append_nil];exact path_lexs hk
  exact Lexs.word hb (word_lexs (u:=[105,115]) (by decide) h1) (by decide)
 cases h with
 | any=>exact ⟨[nm n],by rw [show scopeT sc0 n=n from List.append_nil n];exact Lexs.name hb,fun ws s w R h0 hw hA=>by
   obtain ⟨c,rfl,hc⟩:∃ c,w=mk c∧(c=[44]∨c=[41]):=by rcases hw with rfl | rfl <;> exact ⟨_,rfl,by simp⟩
   exact scope_bare (u:=c) hA (by rcases hc with rfl | rfl <;> decide) (by rcases hc with rfl | rfl <;> decide) (by rcases hc with rfl | rfl <;> decide)⟩
 | slot hk=>exact one hk (plw_slot hb)
 | uid hk ht=>
  obtain ⟨K,hp⟩:=plw_uid (n:=n) _ ht
  exact one hk hp
 | @ty t ht=>
  obtain ⟨ks,hk⟩:=path_tyk ht
  refine ⟨nm n::nm [105,115]::ks,?_,fun ws s w R h0 hw hA=>scope_is hk h0 hA hw.no.1 hw.no.2⟩
  have e:scopeT ⟨3,t,[],[],false,[]⟩ n=n++32::105::115::32::(t++[]):=by
   simp [scopeT,midT,ha]
  rw [e]
  have:=isl hk.1 (Lexs.nil.any (ok:=nLD)) (.inr ⟨rfl,rfl⟩)
  rw [List.append_nil ks] at this
  exact this
 | @tySlot t ht=>
  obtain ⟨ks,hk⟩:=path_tyk ht
  have hp:=plw_slot hb
  refine ⟨nm n::nm [105,115]::(ks++nm [105,110]::[(4,n,0)]),?_,fun ws s w R h0 hw hA=>?_⟩
  ·have e:scopeT ⟨4,t,[],[],true,[]⟩ n=n++32::105::115::32::(t++(opT 2++if true then 63::n else uidT [] [])):=by
    simp [scopeT,midT,ha,opT,placeT]
   rw [e]
   exact isl hk.1 (op_lexs (.inr rfl) hp.lx) (.inl (op_hd (.inr rfl) _))
  ·have:=scope_isin (R:=w::R) hk hp h0 (by simpa using hA)
   rw [this];simp
 | @tyUid t u i ht hu=>
  obtain ⟨ks,hk⟩:=path_tyk ht
  obtain ⟨K,hp⟩:=plw_uid (n:=n) i hu
  refine ⟨nm n::nm [105,115]::(ks++nm [105,110]::K),?_,fun ws s w R h0 hw hA=>?_⟩
  ·have e:scopeT ⟨4,t,u,i,false,[]⟩ n=n++32::105::115::32::(t++(opT 2++if false then 63::n else uidT u i)):=by
    simp [scopeT,midT,ha,opT,placeT]
   rw [e]
   exact isl hk.1 (op_lexs (.inr rfl) hp.lx) (.inl (op_hd (.inr rfl) _))
  ·have:=scope_isin (R:=w::R) hk hp h0 (by simpa using hA)
   rw [this];refine Prod.ext rfl ?_;dsimp only;congr 1;simp;omega
theorem name_no' {t:Str} (h:nameB t=true):noneB [[91]] (nm t)=true:=by
 rw [noneB,List.all_eq_true]
 intro u hu
 have:(t==u)=false:=by
  rw [beq_eq_false_iff_ne]
  rintro rfl
  simp at hu
  subst hu;revert h;decide
 simp [wIs,this]
def contU (ws:Ws) (n:Nat) (s:St) (l:List (Str×Str)):List (Str×Str)×St:=if isS ws s [44] then uidsF ws n (adv s) l else (l,s)
theorem uidsF_eq (ws:Ws) (n:Nat) (s:St) (l:List (Str×Str)):uidsF ws (n+1) s l=contU ws n (uidP ws s).2 (l++[(uidP ws s).1]):=by
 rw [uidsF];rfl
theorem uids_words:∀ (us:List (Str×Str)),(∀ u∈us,okPath u.1=true)→∃ K,(∀ i,0 < i→Lexs (rowT ahQ i (uidsT us)++[93]) (K++[mk [93]]) any8)∧(∀ i,0 < i→∃ c r,rowT ahQ i (uidsT us)++[93]=c::r∧isLD c=false) ∧
  ∀ (ws:Ws) (s:St) (R:List Wd) (n:Nat) (l:List (Str×Str)),0≤s.p→K.length < n→At ws s (K++mk [93]::R)→contU ws n s l=(l++us,mvn s K.length)
 | [],_=>⟨[],fun i _=>Lexs.end1 (by decide),fun i _=>⟨93,[],rfl,by decide⟩,fun ws s R n l h0 hn hA=>by
  have hA:At ws s (mk [93]::R):=hA
  unfold contU
  rw [hA.wis,if_neg (by decide),List.append_nil]
  refine Prod.ext rfl ?_
  show s=mvn s 0
  unfold mvn;ext1 <;> simp⟩
 | u::us,h=>by
  obtain ⟨ks,hk,hl⟩:=uid_lexs (id:=u.2) (h u List.mem_cons_self)
  obtain ⟨K,i1,i2,i3⟩:=uids_words us fun v hv=>h v (List.mem_cons_of_mem _ hv)
  refine ⟨mk [44]::(ks++mk cK::(3,u.2,0)::K),fun i hi=>?_,fun i hi=>⟨44,32::(ahQ i++(uidT u.1 u.2++rowT ahQ (i+1) (uidsT us)))++[93],?_,by decide⟩,fun ws s R n l h0 hn hA=>?_⟩
  ·have e:rowT ahQ i (uidsT (u::us))++[93]=44::32::(uidT u.1 u.2++(rowT ahQ (i+1) (uidsT us)++[93])):=by
    show rowT ahQ i (uidT u.1 u.2::uidsT us)++[93]=_
    rw [rowT,if_pos hi]
    simp [ahQ]
   rw [e]
   have:=Lexs.one (c:=44) (by decide) (hl.app' (i1 (i+1) (by omega))).sp1
   simpa using this
  ·show rowT ahQ i (uidT u.1 u.2::uidsT us)++[93]=_
   rw [rowT,if_pos hi];rfl
  ·obtain ⟨n,rfl⟩:∃ m,n=m+1:=⟨n - 1,by omega⟩
   have hA:At ws s (mk [44]::(ks++mk cK::(3,u.2,0)::(K++mk [93]::R))):=by simpa using hA
   have a1:=hA.adv
   have hu:=uidP_go (s:=adv s) hk (by show 0≤s.p+1;omega) a1
   have a2:At ws (mvn (adv s) (ks.length+2)) (K++mk [93]::R):=by
    have:=At.dropN (K1:=ks++[mk cK,(3,u.2,0)]) (K2:=K++mk [93]::R) (by simpa using a1)
    rwa [show (ks++[mk cK,(3,u.2,0)]).length=ks.length+2 by simp] at this
   unfold contU
   rw [hA.wis,if_pos (by decide),uidsF_eq,hu]
   dsimp only
   rw [i3 ws _ R n _ (by show 0≤s.p+1+((ks.length+2:Nat):Int);omega) (by simp at hn;omega) a2,adv_mvn,mvn_mvn,mvn_mvn]
   refine Prod.ext (by simp) ?_
   dsimp only
   congr 1
   simp;omega
theorem at_in {ws:Ws} {s:St} {K R:List Wd} {w:Wd} (h0:0≤s.p) (h:At ws s (K++w::R)) (hw:w.1≠0):s.p+K.length < ws.length:=by
 have h1:=h.2 K.length w (by simp)
 by_cases hp:s.p+(K.length:Int) < ws.length
 ·exact hp
 ·rw [wdAt_out (by omega)] at h1
  subst h1;exact absurd rfl hw
theorem act_uid {ws:Ws} {s:St} {R:List Wd} {t i:Str} {k:Int} {ks:List Wd} (hk:k=1∨k=2) (ht:TyK t ks) (h0:0≤s.p) (h:At ws s (nm actN::opK k::(ks++mk cK::(3,i,0)::R))):actionP ws s=(⟨k,[],t,i,false,[]⟩,mvn s (ks.length+4)):=by
 have a1:=h.adv
 have a2:=a1.adv
 have hu:=uidP_go ht (by show 0≤s.p+1+1;omega) a2
 have e:mvn (adv (adv s)) (ks.length+2)=mvn s (ks.length+4):=by rw [adv_mvn,adv_mvn,mvn_mvn,mvn_mvn];congr 1;omega
 rw [e] at hu
 have hb:isS ws (adv (adv s)) [91]=false:=by
  obtain ⟨hp,u,K,rfl,_⟩:=ht
  have a2:At ws (adv (adv s)) (nm u::(K++mk cK::(3,i,0)::R)):=a2
  have hn:nameB u=true:=by cases hp <;> assumption
  rw [a2.wis]
  exact noneB_of (name_no' hn) (by simp)
 unfold actionP
 dsimp only
 rw [h.must (.inr rfl)]
 rcases hk with rfl | rfl
 ·rw [a1.is,if_pos (by decide),hu];rfl
 ·rw [a1.is,a1.is,if_neg (by decide),if_neg (by decide),hb,if_pos rfl,hu];rfl
theorem ac_words {x:Scp} (h:AcT x):∃ K,Lexs (scopeT x actN) K nLD∧∀ (ws:Ws) (s:St) (w:Wd) (R:List Wd),0≤s.p→endW w→At ws s (K++w::R)→actionP ws s=(x,mvn s K.length):=by
 have hb:nameB actN=true:=by decide
 cases h with
 | any=>exact ⟨[nm actN],by rw [show scopeT sc0 actN=actN from List.append_nil actN];exact Lexs.name hb,fun ws s w R h0 hw hA=>by
   obtain ⟨c,rfl,hc⟩:∃ c,w=mk c∧(c=[44]∨c=[41]):=by rcases hw with rfl | rfl <;> exact ⟨_,rfl,by simp⟩
   exact action_bare (u:=c) hA (by rcases hc with rfl | rfl <;> decide) (by rcases hc with rfl | rfl <;> decide)⟩
 | @uid k t i hk ht=>
  obtain ⟨ks,hy,hl⟩:=uid_lexs (id:=i) ht
  refine ⟨nm actN::opK k::(ks++[mk cK,(3,i,0)]),?_,fun ws s w R h0 hw hA=>?_⟩
  ·have e:scopeT ⟨k,[],t,i,false,[]⟩ actN=actN++(opT k++uidT t i):=by rcases hk with rfl | rfl <;> rfl
   rw [e]
   obtain ⟨r,er⟩:=op_hd hk (uidT t i)
   have h2:=op_lexs hk (hl.any (ok:=nLD))
   rw [er] at h2 ⊢
   exact Lexs.word hb h2 (by decide)
  ·rw [act_uid (R:=w::R) hk hy h0 (by simpa using hA)]
   refine Prod.ext rfl ?_
   dsimp only
   congr 1
   simp
 | @list l hl=>
  have lx:∀ {Q:Str} {kq:List Wd},Lexs Q kq any8→scopeT ⟨5,[],[],[],false,l⟩ actN=actN++32::105::110::32::91::Q→Lexs (scopeT ⟨5,[],[],[],false,l⟩ actN) (nm actN::nm [105,110]::mk [91]::kq) nLD:=fun {Q kq} hQ e=>by
   rw [e]
   have h1:=Lexs.one (c:=91) (by decide) hQ
   exact (Lexs.word hb (word_lexs (u:=[105,110]) (by decide) h1) (by decide)).any
  have e0:scopeT ⟨5,[],[],[],false,l⟩ actN=actN++32::105::110::32::91::(rowT ahQ 0 (uidsT l)++[93]):=by simp [scopeT,midT]
  cases l with
  | nil=>
   refine ⟨[nm actN,nm [105,110],mk [91],mk [93]],lx (Lexs.end1 (by decide)) e0,fun ws s w R h0 hw hA=>?_⟩
   have hA:At ws s (nm actN::nm [105,110]::mk [91]::mk [93]::w::R):=hA
   have a1:=hA.adv
   have a2:=a1.adv
   have a3:=a2.adv
   unfold actionP
   dsimp only
   rw [hA.must (.inr rfl),a1.is,a1.is,a2.is,a3.is,if_neg (by decide),if_neg (by decide),if_neg (by decide),if_pos (by decide)]
   simp only [adv_mvn,mvn_mvn]
   rfl
  | cons u us=>
   obtain ⟨ks,hk,hu⟩:=uid_lexs (id:=u.2) (hl u List.mem_cons_self)
   obtain ⟨K,i1,i2,i3⟩:=uids_words us fun v hv=>hl v (List.mem_cons_of_mem _ hv)
   refine ⟨nm actN::nm [105,110]::mk [91]::(ks++mk cK::(3,u.2,0)::(K++[mk [93]])),lx ?_ e0,fun ws s w R h0 hw hA=>?_⟩
   ·have e:rowT ahQ 0 (uidsT (u::us))++[93]=uidT u.1 u.2++(rowT ahQ 1 (uidsT us)++[93]):=by
     show rowT ahQ 0 (uidT u.1 u.2::uidsT us)++[93]=_
     rw [rowT,if_neg (by omega)]
     simp [ahQ]
    rw [e]
    have:=hu.app' (i1 1 (by omega))
    simpa using this
   ·have hA:At ws s (nm actN::nm [105,110]::mk [91]::(ks++mk cK::(3,u.2,0)::(K++mk [93]::(w::R)))):=by simpa using hA
    have a1:=hA.adv
    have a2:=a1.adv
    have a3:=a2.adv
    have q:0≤(adv (adv (adv s))).p:=by show 0≤s.p+1+1+1;omega
    have hup:=uidP_go hk q a3
    have a4:At ws (mvn (adv (adv (adv s))) (ks.length+2)) (K++mk [93]::(w::R)):=by
     have:=At.dropN (K1:=ks++[mk cK,(3,u.2,0)]) (K2:=K++mk [93]::(w::R)) (by simpa using a3)
     rwa [show (ks++[mk cK,(3,u.2,0)]).length=ks.length+2 by simp] at this
    have q4:0≤(mvn (adv (adv (adv s))) (ks.length+2)).p:=by show 0≤s.p+1+1+1+((ks.length+2:Nat):Int);omega
    have hin:=at_in q4 a4 (by decide)
    have a5:At ws (mvn (mvn (adv (adv (adv s))) (ks.length+2)) K.length) (mk [93]::(w::R)):=a4.dropN
    have hc:=i3 ws _ (w::R) ws.length ([]++[u]) q4 (by omega) a4
    have hF:uidsF ws (ws.length+1) (adv (adv (adv s))) []=(u::us,mvn (mvn (adv (adv (adv s))) (ks.length+2)) K.length):=by
     rw [uidsF_eq,hup];exact hc
    have hn3:isS ws (adv (adv (adv s))) [93]=false:=by
     obtain ⟨hp,t,K',rfl,_⟩:=hk
     have a3:At ws (adv (adv (adv s))) (nm t::(K'++mk cK::(3,u.2,0)::(K++mk [93]::(w::R)))):=a3
     have hn:nameB t=true:=by generalize u.1=v at hp;cases hp <;> assumption
     rw [a3.wis]
     exact noneB_of (name_no hn) (by simp)
    unfold actionP
    dsimp only
    rw [hA.must (.inr rfl),a1.is,a1.is,a2.is,if_neg (by decide),if_neg (by decide),if_neg (by decide),hn3,if_neg (by decide),hF]
    dsimp only
    rw [a5.must (.inl rfl)]
    refine Prod.ext rfl ?_
    simp only [adv_mvn,mvn_mvn]
    congr 1
    simp;omega
def addP (x:Pol) (l:List (Bool×Ex')):Pol:=⟨x.id,x.permit,x.p,x.a,x.r,x.conds++l⟩
theorem addP_add (x:Pol) (l m:List (Bool×Ex')):addP (addP x l) m=addP x (l++m):=by unfold addP;rw [List.append_assoc]
structure CoT (x:Pol) (c:Bool×Ex'):Prop where
 t:Tol c.2
 d:depX c.2≤50
 p:hasSl c.2 prN=true→x.p.slot=true
 r:hasSl c.2 reN=true→x.r.slot=true
structure PolT (x:Pol):Prop where
 p:ScT x.p
 a:AcT x.a
 r:ScT x.r
 c:∀ c∈x.conds,CoT x c
theorem ptx_of {x:Ex'} (h:Tol x) (hd:depX x≤50):ptx x=(pt x,0):=by
 unfold ptx;rw [if_neg (by omega),if_pos (told_all h).1]
theorem read_at {x:Ex'} {K:List Wd} (r:Rd x K) {ws:Ws} {s:St} {w:Wd} {R:List Wd} (h0:0≤s.p) (h:At ws s (K++w::R)) (hq:noneB zA w=true):readS ws s.p=(x,s.p+K.length,0,0)∨(readS ws s.p).2.2.1=11:=by
 have hA:At ws (st0 s.p) (K++w::R):=⟨rfl,h.2⟩
 have hr:=r.expr (s:=st0 s.p) h0 hA hq
 obtain ⟨n,hn⟩:=runG_ex ws .expr (st0 s.p)
 unfold readS
 rcases hr n _ hn with e | ⟨e,-⟩
 ·rw [e,if_pos (show (mvn (st0 s.p) K.length).e=0 from rfl)]
  exact .inl rfl
 ·rw [if_neg (by rw [e];decide)]
  exact .inr e
theorem cond_tgo {ws:Ws} {s:St} {K R:List Wd} {E:Ex'} (x:Pol) (wh:Bool) (r:Rd E K) (hc:CoT x (wh,E)) (h0:0≤s.p) (h:At ws s (mk [123]::(K++mk [125]::R))):condP ws x wh s=(addP x [(wh,E)],mvn s (K.length+2))∨(condP ws x wh s).2.e=11:=by
 have a1:=h.adv
 have hr:=read_at r (s:=adv s) (by show 0≤s.p+1;omega) a1 (by decide)
 have a2:At ws (mvn (adv s) K.length) (mk [125]::R):=a1.dropN
 unfold condP
 dsimp only
 rw [h.must (.inl rfl),if_neg (by have:=a1.1;simpa using this)]
 rcases hr with hr | hr
 ·have hd:¬ 50 < depX E:=by have:=hc.d;dsimp only at this;omega
  have f:((!x.p.slot&&hasSl E prN)||(!x.r.slot&&hasSl E reN))=false:=by
   have h1:=hc.p
   have h2:=hc.r
   dsimp only at h1 h2
   cases e1:hasSl E prN <;> cases e2:hasSl E reN <;> simp [e1,e2] at h1 h2 ⊢ <;> simp [*]
  rw [hr]
  dsimp only
  rw [if_neg (by decide),f,if_neg (by decide),if_neg hd]
  refine .inl (Prod.ext rfl ?_)
  show mustS ws (mvn (adv s) K.length) [125]=_
  rw [a2.must (.inl rfl),adv_mvn,adv_mvn,mvn_mvn,mvn_mvn]
  congr 1;omega
 ·rw [if_pos (by rw [hr];decide)]
  exact .inr hr
theorem conds_words:∀ (cs:List (Bool×Ex')),(∀ c∈cs,Tol c.2∧depX c.2≤50)→∃ K,Lexs (condsT cs) K any8∧cs.length≤K.length∧condsE cs=0 ∧
  ∀ (ws:Ws) (s:St) (R:List Wd) (n:Nat) (x:Pol),0≤s.p→cs.length < n→(∀ c∈cs,CoT x c)→At ws s (K++mk [59]::R)→condsF ws n x s=(addP x cs,mvn s (K.length+1))∨(condsF ws n x s).2.e=11
 | [],_=>⟨[],Lexs.nil,Nat.le_refl _,rfl,fun ws s R n x h0 hn _ h=>by
  obtain ⟨n,rfl⟩:∃ m,n=m+1:=⟨n - 1,by simp at hn;omega⟩
  have h:At ws s (mk [59]::R):=h
  rw [condsF,if_neg (by have:=h.1;simpa using this),h.is,h.is,if_neg (by decide),if_neg (by decide),h.must (.inl rfl)]
  exact .inl (by unfold addP;rw [List.append_nil];rfl)⟩
 | c :: cs,hc=>by
  obtain ⟨K,hl,hn,hz,hg⟩:=conds_words cs fun d hd=>hc d (List.mem_cons_of_mem _ hd)
  obtain ⟨ct,cd⟩:=hc c List.mem_cons_self
  obtain ⟨-,Kc,tw⟩:=told_all ct
  obtain ⟨wh,E⟩:=c
  dsimp only at ct cd tw
  have ep:=ptx_of ct cd
  refine ⟨nm (if wh then whenT else unlT)::mk [123]::(Kc++mk [125]::K),?_,by simp;omega,by rw [condsE,if_pos (by rw [ep])];exact hz,fun ws s R n x h0 hn2 hx hA=>?_⟩
  ·have hu:nameB (if wh then whenT else unlT)=true:=by cases wh <;> decide
   have l1:Lexs (125::condsT cs) (mk [125]::K) any8:=Lexs.one (by decide) hl
   have l3:=tw.lx.then l1.sp1 (by decide)
   have l4:=Lexs.one (c:=123) (by decide) l3.sp1
   have l5:=word_lexs hu l4
   have e:condsT ((wh,E)::cs)=32::((if wh then whenT else unlT)++32::123::32::(pt E++32::125::condsT cs)):=by
    rw [condsT,condTx,ep]
    cases wh <;> simp [whenT,unlT]
   rw [e]
   exact l5
  ·obtain ⟨n,rfl⟩:∃ m,n=m+1:=⟨n - 1,by simp at hn2;omega⟩
   have hA:At ws s (nm (if wh then whenT else unlT)::mk [123]::(Kc++mk [125]::(K++mk [59]::R))):=by simpa using hA
   have a1:=hA.adv
   have hx0:=hx (wh,E) List.mem_cons_self
   have q:0≤(adv s).p:=by show 0≤s.p+1;omega
   have key:condsF ws (n+1) x s=condsF ws n (condP ws x wh (adv s)).1 (condP ws x wh (adv s)).2:=by
    rw [condsF,if_neg (by have:=hA.1;simpa using this),hA.is,hA.is]
    cases wh with
    | true=>rw [if_pos (by decide)]
    | false=>rw [if_neg (by decide),if_pos (by decide)]
   rw [key]
   rcases cond_tgo x wh tw.rd.toRd hx0 q a1 with e | e
   ·rw [e]
    dsimp only
    have a2:At ws (mvn (adv s) (Kc.length+2)) (K++mk [59]::R):=by
     have:=At.dropN (K1:=mk [123]::(Kc++[mk [125]])) (K2:=K++mk [59]::R) (by simpa using a1)
     rwa [show (mk [123]::(Kc++[mk [125]])).length=Kc.length+2 by simp] at this
    rcases hg ws _ R n (addP x [(wh,E)]) (by show 0≤s.p+1+((Kc.length+2:Nat):Int);omega) (by simp at hn2;omega) (fun d hd=>by
     have:=hx d (List.mem_cons_of_mem _ hd)
     exact ⟨this.t,this.d,this.p,this.r⟩) a2 with e2 | e2
    ·refine .inl ?_
     rw [e2,addP_add,adv_mvn,mvn_mvn,mvn_mvn]
     refine Prod.ext rfl ?_
     dsimp only
     congr 1
     simp;omega
    ·exact .inr e2
   ·rw [condsF_err (by rw [e];decide)]
    exact .inr e
theorem body_go {ws:Ws} {s:St} {R Kp Ka Kr Kc:List Wd} {x:Pol} (pm:Bool) (id:Str)
  (hp:∀ (ws:Ws) (s:St) (w:Wd) (R:List Wd),0≤s.p→endW w→At ws s (Kp++w::R)→scopeP ws s prN=(x.p,mvn s Kp.length))
  (ha:∀ (ws:Ws) (s:St) (w:Wd) (R:List Wd),0≤s.p→endW w→At ws s (Ka++w::R)→actionP ws s=(x.a,mvn s Ka.length))
  (hr:∀ (ws:Ws) (s:St) (w:Wd) (R:List Wd),0≤s.p→endW w→At ws s (Kr++w::R)→scopeP ws s reN=(x.r,mvn s Kr.length))
  (hl:x.conds.length≤Kc.length)
  (hg:∀ (ws:Ws) (s:St) (R:List Wd) (n:Nat) (y:Pol),0≤s.p→x.conds.length < n→(∀ c∈x.conds,CoT y c)→At ws s (Kc++mk [59]::R)→condsF ws n y s=(addP y x.conds,mvn s (Kc.length+1))∨(condsF ws n y s).2.e=11)
  (hc:∀ c∈x.conds,CoT x c) (h0:0≤s.p) (h:At ws s (mk [40]::(Kp++mk [44]::(Ka++mk [44]::(Kr++mk [41]::(Kc++mk [59]::R)))))) :
  bodyP ws id pm s=(⟨id,pm,x.p,x.a,x.r,x.conds⟩,mvn s (Kp.length+Ka.length+Kr.length+Kc.length+5))∨(bodyP ws id pm s).2.e=11:=by
 have a1:=h.adv
 have a2:=a1.dropN
 have a3:=a2.adv
 have a4:=a3.dropN
 have a5:=a4.adv
 have a6:=a5.dropN
 have a7:=a6.adv
 have q1:0≤(adv s).p:=by show 0≤s.p+1;omega
 have q2:0≤(adv (mvn (adv s) Kp.length)).p:=by show 0≤s.p+1+(Kp.length:Int)+1;omega
 have q3:0≤(adv (mvn (adv (mvn (adv s) Kp.length)) Ka.length)).p:=by show 0≤s.p+1+(Kp.length:Int)+1+(Ka.length:Int)+1;omega
 have q4:0≤(adv (mvn (adv (mvn (adv (mvn (adv s) Kp.length)) Ka.length)) Kr.length)).p:=by show 0≤s.p+1+(Kp.length:Int)+1+(Ka.length:Int)+1+(Kr.length:Int)+1;omega
 have hin:=at_in q4 a7 (by decide)
 unfold bodyP
 dsimp only
 rw [h.must (.inl rfl),hp ws _ _ _ q1 (.inl rfl) a1]
 dsimp only
 rw [a2.must (.inl rfl),ha ws _ _ _ q2 (.inl rfl) a3]
 dsimp only
 rw [a4.must (.inl rfl),hr ws _ _ _ q3 (.inr rfl) a5]
 dsimp only
 rw [a6.must (.inl rfl)]
 rcases hg ws _ R (ws.length+1) ⟨id,pm,x.p,x.a,x.r,[]⟩ q4 (by omega) (fun c h=>⟨(hc c h).t,(hc c h).d,(hc c h).p,(hc c h).r⟩) a7 with e | e
 ·refine .inl ?_
  rw [e]
  refine Prod.ext rfl ?_
  simp only [adv_mvn,mvn_mvn]
  congr 1
  omega
 ·exact .inr e
theorem pol_words {x:Pol} (h:PolT x):∃ K,Lexs (polTx x) (mk [64]::K) any8∧polE x=0∧∀ (ws:Ws) (s:St) (R:List Wd) (n:Int),0≤s.p→At ws s (mk [64]::(K++R))→policyP ws n s=(x,mvn s (K.length+1))∨(policyP ws n s).2.e=11:=by
 obtain ⟨Kp,lp,gp⟩:=sc_words h.p (.inl rfl)
 obtain ⟨Ka,la,ga⟩:=ac_words h.a
 obtain ⟨Kr,lr,gr⟩:=sc_words h.r (.inr rfl)
 obtain ⟨Kc,lc,hl,hz,gc⟩:=conds_words x.conds fun c hc=>⟨(h.c c hc).t,(h.c c hc).d⟩
 have hu:nameB (if x.permit then permT else forbT)=true:=by cases x.permit <;> decide
 refine ⟨nm [105,100]::mk [40]::(3,x.id,0)::mk [41]::nm (if x.permit then permT else forbT)::mk [40]::(Kp++mk [44]::(Ka++mk [44]::(Kr++mk [41]::(Kc++[mk [59]])))),?_,?_,fun ws s R n h0 hA=>?_⟩
 ·have l1:Lexs [59,10] [mk [59]] any8:=Lexs.one (by decide) (Lexs.sp (A:=[10]) (by decide))
  have l3:=Lexs.one (c:=41) (by decide) (lc.app' l1)
  have l4:=lr.then l3 (by decide)
  have l5:=Lexs.one (c:=44) (by decide) l4.sp1
  have l6:=la.then l5 (by decide)
  have l7:=Lexs.one (c:=44) (by decide) l6.sp1
  have l8:=lp.then l7 (by decide)
  have l9:=Lexs.one (c:=40) (by decide) l8
  have l10:=Lexs.word hu l9 (by decide)
  have l11:=Lexs.one (c:=41) (by decide) l10.sp1
  have l12:=(Lexs.quoted x.id).app' l11
  have l13:=Lexs.one (c:=40) (by decide) l12
  have l14:=Lexs.word (u:=[105,100]) (by decide) l13 (by decide)
  have l15:=Lexs.one (c:=64) (by decide) l14
  have e:polTx x=64::([105,100]++40::(quote x.id++41::32::((if x.permit then permT else forbT)++40::(scopeT x.p prN++44::32::(scopeT x.a actN++44::32::(scopeT x.r reN++41::(condsT x.conds++[59,10]))))))):=by
   unfold polTx headT
   cases x.permit <;> simp [permT,forbT]
  rw [e]
  exact l15
 ·unfold polE polOk
  rw [sc_ok h.p (by decide),ac_ok h.a,sc_ok h.r (by decide)]
  exact hz
 ·have hA:At ws s (idK x.id++(nm (if x.permit then permT else forbT)::mk [40]::(Kp++mk [44]::(Ka++mk [44]::(Kr++mk [41]::(Kc++mk [59]::R)))))):=by simpa [idK] using hA
  obtain ⟨i1,i2⟩:=id_go x.id n hA
  rw [i1]
  have a1:=i2.adv
  have q:0≤(adv (advn 5 s)).p:=by rw [advn_eq];show 0≤s.p+((5:Nat):Int)+1;omega
  have key:permB ws x.id (advn 5 s)=bodyP ws x.id x.permit (adv (advn 5 s)):=by
   unfold permB
   rw [i2.is]
   cases hb:x.permit with
   | true=>rw [hb] at i2;rw [if_pos (by decide)]
   | false=>rw [hb] at i2;rw [if_neg (by decide),At.must (K:=_) (t:=forbT) i2 (.inr rfl)]
  rw [key]
  rcases body_go (R:=R) x.permit x.id gp ga gr hl gc h.c q a1 with e | e
  ·refine .inl ?_
   rw [e,advn_eq]
   refine Prod.ext rfl ?_
   show mvn (adv (mvn s 5)) _=_
   rw [adv_mvn,mvn_mvn,mvn_mvn]
   congr 1
   simp;omega
  ·exact .inr e
theorem polsW:∀ (xs:List Pol),(∀ x∈xs,PolT x)→∃ K,Lexs (polsT xs) K any8∧xs.length≤K.length∧polsE xs=0 ∧
  ∀ (ws:Ws) (s:St) (n:Nat) (l:List Pol),0≤s.p→xs.length < n→At ws s (K++[(0,[],0)])→(∃ s',s'.e=0∧polsF ws n l s=(l++xs,s'))∨(polsF ws n l s).2.e=11
 | [],_=>⟨[],Lexs.nil,Nat.le_refl _,rfl,fun ws s n l h0 hn h=>by
  obtain ⟨n,rfl⟩:∃ m,n=m+1:=⟨n - 1,by simp at hn;omega⟩
  have h:At ws s ((0,[],0)::[]):=h
  refine .inl ⟨s,h.1,?_⟩
  rw [polsF,if_pos (by rw [h.wk];rfl),List.append_nil]⟩
 | x::xs,hx=>by
  obtain ⟨K,lx,hn,hz,hg⟩:=polsW xs fun y hy=>hx y (List.mem_cons_of_mem _ hy)
  obtain ⟨K1,lx1,hz1,hg1⟩:=pol_words (hx x List.mem_cons_self)
  refine ⟨mk [64]::K1++K,lx1.app' lx,by simp;omega,by rw [polsE,if_pos hz1];exact hz,fun ws s n l h0 hn2 hA=>?_⟩
  obtain ⟨n,rfl⟩:∃ m,n=m+1:=⟨n - 1,by simp at hn2;omega⟩
  have hA:At ws s (mk [64]::(K1++(K++[(0,[],0)]))):=by simpa using hA
  have hk:wk ws s≠0:=by rw [hA.wk];decide
  rcases hg1 ws s (K++[(0,[],0)]) l.length h0 hA with e | e
  ·have a2:At ws (mvn s (K1.length+1)) (K++[(0,[],0)]):=At.dropN (K1:=mk [64]::K1) hA
   rw [polsF,if_neg hk,e]
   dsimp only
   rw [if_neg (by have:=hA.1;simpa [mvn] using this)]
   rcases hg ws _ n (l++[x]) (by show 0≤s.p+((K1.length+1:Nat):Int);omega) (by simp at hn2;omega) a2 with ⟨s',e1,e2⟩ | e2
   ·exact .inl ⟨s',e1,by rw [e2];simp⟩
   ·exact .inr e2
  ·refine .inr ?_
   rw [polsF,if_neg hk,if_pos (by rw [e];decide)]
   exact e
theorem pols_back {xs:List Pol} (h:∀ x∈xs,PolT x) (ht:twiceB (xs.map Pol.id)=false):pols xs=(polsT xs,0)∧(polsS (polsT xs)=(xs,0,0)∨(polsS (polsT xs)).2.1=11∨(polsS (polsT xs)).2.1=12):=by
 obtain ⟨K,lx,hn,hz,hg⟩:=polsW xs h
 refine ⟨by unfold pols;rw [if_pos hz],?_⟩
 obtain ⟨l,hw,hK⟩:=lx.words
 have hlen:xs.length < l.length+1:=by
  have e:=congrArg List.length hK
  rw [List.length_map,List.length_append,List.length_singleton] at e
  omega
 unfold polsS
 by_cases hl:65536 < (polsT xs).length
 ·rw [if_pos hl];exact .inr (.inr rfl)
 rw [if_neg hl,hw]
 dsimp only
 unfold polsL
 dsimp only
 rcases hg l (st0 0) (l.length+1) [] (Int.le_refl 0) hlen (At.of hK 0) with ⟨s',e1,e2⟩ | e
 ·rw [e2]
  dsimp only
  rw [if_neg (by simpa using e1),List.nil_append,ht,if_neg (by decide)]
  exact .inl rfl
 ·rw [if_pos (by rw [e];decide)]
  exact .inr (.inl e)
def sumU (l:List (Str×Str)):Nat:=(l.map fun p=>p.1.length+p.2.length+3).sum
def sumC (l:List (Bool×Ex')):Nat:=(l.map fun c=>wt c.2).sum
theorem sumU_snoc (l:List (Str×Str)) (u:Str×Str):sumU (l++[u])=sumU l+(u.1.length+u.2.length+3):=by unfold sumU;simp
section
variable {ws:Ws}
theorem uidP_ph {s:St} (h0:0≤s.p) (h:(uidP ws s).2.e=0):ph ws s.p+24+(uidP ws s).1.1.length+(uidP ws s).1.2.length≤ph ws (uidP ws s).2.p∧0≤(uidP ws s).2.p:=by
 unfold uidP at h ⊢
 by_cases he:s.e=0
 ·rw [if_pos he] at h ⊢
  by_cases h1:(uidR ws s.p).2.2.1=0
  ·rw [if_pos h1] at h ⊢
   unfold uidR at h1 ⊢
   by_cases h2:(uidS ws (st0 s.p)).2.e=0
   ·rw [if_pos h2];exact ph_uid (s:=st0 s.p) h0 h2
   ·rw [if_neg h2] at h1;exact absurd h1 h2
  ·rw [if_neg h1] at h;exact absurd h h1
 ·rw [if_neg he] at h;exact absurd h he
theorem place_ph {s:St} {n ty:Str} {k:Int} (h0:0≤s.p) (h:(placeP ws s (kindS k ty) n).2.e=0):wtS (placeP ws s (kindS k ty) n).1+ph ws s.p+24≤ph ws (placeP ws s (kindS k ty) n).2.p+ty.length∧0≤(placeP ws s (kindS k ty) n).2.p:=by
 unfold placeP at h ⊢
 by_cases hc:s.e=0∧wk ws s=4
 ·rw [if_pos hc] at h ⊢
  dsimp only at h ⊢
  by_cases hn:wtx ws s=n
  ·rw [if_pos hn] at h ⊢
   have:=ph_adv (ws:=ws) h0
   refine ⟨?_,by show 0≤s.p+1;omega⟩
   show ty.length+0+0+0+ph ws s.p+24≤_
   omega
  ·rw [if_neg hn] at h
   exact absurd h (failS_e (ws:=ws) (s:=s) (e:=32) (by decide))
 ·rw [if_neg hc] at h ⊢
  obtain ⟨a,b⟩:=uidP_ph h0 h
  refine ⟨?_,b⟩
  show ty.length+(uidP ws s).1.1.length+(uidP ws s).1.2.length+0+ph ws s.p+24≤ph ws (uidP ws s).2.p+ty.length
  omega
theorem scope_ph {s:St} {n:Str} (h0:0≤s.p) (h:(scopeP ws s n).2.e=0):wtS (scopeP ws s n).1+ph ws s.p+24≤ph ws (scopeP ws s n).2.p∧0≤(scopeP ws s n).2.p∧s.e=0:=by
 unfold scopeP at h ⊢
 dsimp only at h ⊢
 have m:(mustS ws s n).e=0→ph ws s.p+24≤ph ws (mustS ws s n).p∧0≤(mustS ws s n).p∧s.e=0:=fun he=>⟨(ph_must h0 he).1,(ph_must h0 he).2,(Fwd.must he).1⟩
 generalize mustS ws s n=s1 at *
 by_cases h1:isS ws s1 [61,61]=true
 ·rw [if_pos h1] at h ⊢
  obtain ⟨a,b,b'⟩:=m (isS_ok h1)
  have c:=ph_adv (ws:=ws) b
  obtain ⟨d,e⟩:=place_ph (s:=adv s1) (by show 0≤s1.p+1;omega) h
  rw [List.length_nil] at d
  exact ⟨by omega,e,b'⟩
 rw [if_neg h1] at h ⊢
 by_cases h2:isS ws s1 [105,110]=true
 ·rw [if_pos h2] at h ⊢
  obtain ⟨a,b,b'⟩:=m (isS_ok h2)
  have c:=ph_adv (ws:=ws) b
  obtain ⟨d,e⟩:=place_ph (s:=adv s1) (by show 0≤s1.p+1;omega) h
  rw [List.length_nil] at d
  exact ⟨by omega,e,b'⟩
 rw [if_neg h2] at h ⊢
 by_cases h3:isS ws s1 [105,115]=true
 ·rw [if_pos h3] at h ⊢
  obtain ⟨a,b,b'⟩:=m (isS_ok h3)
  have c:=ph_adv (ws:=ws) b
  have q:0≤(adv s1).p:=by show 0≤s1.p+1;omega
  by_cases h4:isS ws (pathS ws (adv s1)).2 [105,110]=true
  ·rw [if_pos h4] at h ⊢
   obtain ⟨d1,d2⟩:=ph_path q (isS_ok h4)
   have c2:=ph_adv (ws:=ws) d2
   obtain ⟨d,e⟩:=place_ph (s:=adv (pathS ws (adv s1)).2) (by show 0≤(pathS ws (adv s1)).2.p+1;omega) h
   exact ⟨by omega,e,b'⟩
  ·rw [if_neg h4] at h ⊢
   obtain ⟨d1,d2⟩:=ph_path q h
   refine ⟨?_,d2,b'⟩
   show (pathS ws (adv s1)).1.length+0+0+0+ph ws s.p+24≤ph ws (pathS ws (adv s1)).2.p
   omega
 ·rw [if_neg h3] at h ⊢
  obtain ⟨a,b,b'⟩:=m h
  refine ⟨?_,b,b'⟩
  show 0+ph ws s.p+24≤ph ws s1.p
  omega
theorem uids_ph:∀ (n:Nat) (s:St) (l:List (Str×Str)),0≤s.p→(uidsF ws n s l).2.e=0→sumU (uidsF ws n s l).1+ph ws s.p≤ph ws (uidsF ws n s l).2.p+sumU l∧0≤(uidsF ws n s l).2.p
 | 0,s,l,h0,h=>⟨by show sumU l+ph ws s.p≤ph ws s.p+sumU l;omega,h0⟩
 | n+1,s,l,h0,h=>by
  rw [uidsF] at h ⊢
  by_cases hi:isS ws (uidP ws s).2 [44]=true
  ·rw [if_pos hi] at h ⊢
   obtain ⟨a,b⟩:=uidP_ph h0 (isS_ok hi)
   have c:=ph_adv (ws:=ws) b
   obtain ⟨d,e⟩:=uids_ph n (adv (uidP ws s).2) _ (by show 0≤(uidP ws s).2.p+1;omega) h
   rw [sumU_snoc] at d
   exact ⟨by omega,e⟩
  ·rw [if_neg hi] at h ⊢
   obtain ⟨a,b⟩:=uidP_ph h0 h
   refine ⟨?_,b⟩
   rw [sumU_snoc];dsimp only;omega
theorem action_ph {s:St} (h0:0≤s.p) (h:(actionP ws s).2.e=0):wtS (actionP ws s).1+ph ws s.p+24≤ph ws (actionP ws s).2.p∧0≤(actionP ws s).2.p∧s.e=0:=by
 unfold actionP at h ⊢
 dsimp only at h ⊢
 have m:(mustS ws s actN).e=0→ph ws s.p+24≤ph ws (mustS ws s actN).p∧0≤(mustS ws s actN).p∧s.e=0:=fun he=>⟨(ph_must h0 he).1,(ph_must h0 he).2,(Fwd.must he).1⟩
 generalize mustS ws s actN=s1 at *
 have one:∀ k,0≤s1.p→s1.e=0→(uidP ws (adv s1)).2.e=0→wtS (actUid k (uidP ws (adv s1))).1+ph ws s.p+24≤ph ws (actUid k (uidP ws (adv s1))).2.p∧0≤(actUid k (uidP ws (adv s1))).2.p∧s.e=0:=fun k hp he hu=>by
  obtain ⟨a,b,b'⟩:=m he
  have c:=ph_adv (ws:=ws) b
  obtain ⟨d,e⟩:=uidP_ph (s:=adv s1) (by show 0≤s1.p+1;omega) hu
  refine ⟨?_,e,b'⟩
  show 0+(uidP ws (adv s1)).1.1.length+(uidP ws (adv s1)).1.2.length+0+ph ws s.p+24≤ph ws (uidP ws (adv s1)).2.p
  omega
 by_cases h1:isS ws s1 [61,61]=true
 ·rw [if_pos h1] at h ⊢
  exact one 1 (m (isS_ok h1)).2.1 (isS_ok h1) h
 rw [if_neg h1] at h ⊢
 by_cases h2:isS ws s1 [105,110]=false
 ·rw [if_pos h2] at h ⊢
  obtain ⟨a,b,b'⟩:=m h
  refine ⟨?_,b,b'⟩
  show 0+ph ws s.p+24≤ph ws s1.p
  omega
 rw [if_neg h2] at h ⊢
 have h2:isS ws s1 [105,110]=true:=by simpa using h2
 obtain ⟨a,b,b'⟩:=m (isS_ok h2)
 by_cases h3:isS ws (adv s1) [91]=false
 ·rw [if_pos h3] at h ⊢
  exact one 2 b (isS_ok h2) h
 rw [if_neg h3] at h ⊢
 have c:=ph_adv (ws:=ws) b
 have q:0≤(adv s1).p:=by show 0≤s1.p+1;omega
 have c2:=ph_adv (ws:=ws) q
 have q2:0≤(adv (adv s1)).p:=by show 0≤s1.p+1+1;omega
 by_cases h4:isS ws (adv (adv s1)) [93]=true
 ·rw [if_pos h4] at h ⊢
  have c3:=ph_adv (ws:=ws) q2
  refine ⟨?_,by show 0≤s1.p+1+1+1;omega,b'⟩
  show 0+ph ws s.p+24≤ph ws (adv (adv (adv s1))).p
  omega
 ·rw [if_neg h4] at h ⊢
  have he:=(Fwd.must h).1
  obtain ⟨d,e⟩:=uids_ph (ws.length+1) (adv (adv s1)) [] q2 he
  obtain ⟨f,g⟩:=ph_must e h
  have d:sumU (uidsF ws (ws.length+1) (adv (adv s1)) []).1+ph ws (adv (adv s1)).p≤ph ws (uidsF ws (ws.length+1) (adv (adv s1)) []).2.p+0:=d
  refine ⟨?_,g,b'⟩
  show 0+0+0+sumU (uidsF ws (ws.length+1) (adv (adv s1)) []).1+ph ws s.p+24≤ph ws (mustS ws (uidsF ws (ws.length+1) (adv (adv s1)) []).2 [93]).p
  omega
theorem read_ph {i:Int} (hi:0≤i) (h:(readS ws i).2.2.1=0):wt (readS ws i).1+ph ws i≤ph ws (readS ws i).2.1∧0≤(readS ws i).2.1:=by
 obtain ⟨n,hn⟩:=runG_ex ws .expr (st0 i)
 unfold readS at h ⊢
 by_cases he:(runG ws .expr (st0 i)).2.e=0
 ·rw [if_pos he]
  have:=G_wt ws n _ _ _ hn he hi
  simp only [inW] at this
  exact this
 ·rw [if_neg he] at h;exact absurd h he
theorem cond_told {x:Pol} {wh:Bool} {s:St} (hT:WsL ws) (h0:0≤s.p) (h:(condP ws x wh s).2.e=0):∃ E,(condP ws x wh s).1=addP x [(wh,E)]∧CoT x (wh,E)∧wt E+ph ws s.p≤ph ws (condP ws x wh s).2.p∧0≤(condP ws x wh s).2.p∧s.e=0:=by
 unfold condP at h ⊢
 dsimp only at h ⊢
 have m:(mustS ws s [123]).e=0→ph ws s.p+24≤ph ws (mustS ws s [123]).p∧0≤(mustS ws s [123]).p∧s.e=0:=fun he=>⟨(ph_must h0 he).1,(ph_must h0 he).2,(Fwd.must he).1⟩
 generalize mustS ws s [123]=s1 at *
 by_cases he:s1.e=0
 ·rw [if_neg (by simpa using he)] at h ⊢
  obtain ⟨a,b,b'⟩:=m he
  by_cases h1:(readS ws s1.p).2.2.1=0
  ·rw [if_neg (by simpa using h1)] at h ⊢
   have ht:=read_told hT h1
   obtain ⟨p1,p2⟩:=read_ph b h1
   have m2:(mustS ws ⟨(readS ws s1.p).2.1,s1.deep,s1.e,s1.bad⟩ [125]).e=0→ph ws (readS ws s1.p).2.1+24≤ph ws (mustS ws ⟨(readS ws s1.p).2.1,s1.deep,s1.e,s1.bad⟩ [125]).p∧0≤(mustS ws ⟨(readS ws s1.p).2.1,s1.deep,s1.e,s1.bad⟩ [125]).p:=fun he=>ph_must (s:=⟨(readS ws s1.p).2.1,s1.deep,s1.e,s1.bad⟩) p2 he
   generalize mustS ws ⟨(readS ws s1.p).2.1,s1.deep,s1.e,s1.bad⟩ [125]=s2 at *
   generalize (readS ws s1.p).1=t at *
   dsimp only at h ⊢
   by_cases hs:(!x.p.slot&&hasSl t prN||!x.r.slot&&hasSl t reN)=true
   ·rw [if_pos hs] at h;exact absurd h (failA_e (by decide))
   ·rw [if_neg hs] at h ⊢
    by_cases hd:50 < depX t
    ·rw [if_pos hd] at h;exact absurd h (failA_e (by decide))
    ·rw [if_neg hd] at h ⊢
     obtain ⟨c1,c2⟩:=m2 h
     refine ⟨t,rfl,⟨ht,by dsimp only;omega,fun h1=>?_,fun h1=>?_⟩,by omega,c2,b'⟩
     ·have h1:hasSl t prN=true:=h1
      cases hp:x.p.slot with
      | true=>rfl
      | false=>exact absurd (by rw [hp,h1];rfl) hs
     ·have h1:hasSl t reN=true:=h1
      cases hp:x.r.slot with
      | true=>rfl
      | false=>exact absurd (by rw [hp,h1];simp) hs
  ·rw [if_pos h1] at h;exact absurd h h1
 ·rw [if_pos he] at h;exact absurd h he
theorem conds_told (hT:WsL ws):∀ (n:Nat) (x:Pol) (s:St),0≤s.p→(condsF ws n x s).2.e=0→∃ l,(condsF ws n x s).1=addP x l∧(∀ c∈l,CoT x c)∧sumC l+ph ws s.p≤ph ws (condsF ws n x s).2.p∧0≤(condsF ws n x s).2.p∧s.e=0
 | 0,x,s,h0,h=>⟨[],by unfold addP;rw [List.append_nil];rfl,fun c hc=>(by cases hc),by show 0+ph ws s.p≤ph ws s.p;omega,h0,h⟩
 | n + 1,x,s,h0,h=>by
  have none:∀ {y:St},ph ws s.p≤ph ws y.p→0≤y.p→s.e=0→∃ l,x=addP x l∧(∀ c∈l,CoT x c)∧sumC l+ph ws s.p≤ph ws y.p∧0≤y.p∧s.e=0:=fun {y} a b c=>⟨[],by unfold addP;rw [List.append_nil],fun c hc=>(by cases hc),by show 0+ph ws s.p≤ph ws y.p;omega,b,c⟩
  rw [condsF] at h ⊢
  by_cases he:s.e=0
  ·rw [if_neg (by simpa using he)] at h ⊢
   have one:∀ wh,(condsF ws n (condP ws x wh (adv s)).1 (condP ws x wh (adv s)).2).2.e=0→∃ l,(condsF ws n (condP ws x wh (adv s)).1 (condP ws x wh (adv s)).2).1=addP x l∧(∀ c∈l,CoT x c)∧sumC l+ph ws s.p≤ph ws (condsF ws n (condP ws x wh (adv s)).1 (condP ws x wh (adv s)).2).2.p∧0≤(condsF ws n (condP ws x wh (adv s)).1 (condP ws x wh (adv s)).2).2.p∧s.e=0:=fun wh h=>by
    have c:=ph_adv (ws:=ws) h0
    have q:0≤(adv s).p:=by show 0≤s.p+1;omega
    have h1:(condP ws x wh (adv s)).2.e=0:=by
     by_cases hz:(condP ws x wh (adv s)).2.e=0
     ·exact hz
     ·rw [condsF_err hz] at h;exact h
    obtain ⟨E,e1,e2,e3,e4,-⟩:=cond_told hT q h1
    obtain ⟨l,i1,i2,i3,i4,-⟩:=conds_told hT n _ _ e4 h
    refine ⟨(wh,E)::l,?_,fun c hc=>?_,?_,i4,he⟩
    ·rw [i1,e1,addP_add];rfl
    ·rcases List.mem_cons.1 hc with rfl | hc
     ·exact e2
     ·have:=i2 c hc
      rw [e1] at this
      exact ⟨this.t,this.d,this.p,this.r⟩
    ·have:sumC ((wh,E)::l)=wt E+sumC l:=by unfold sumC;rw [List.map_cons,List.sum_cons]
     omega
   by_cases h1:isS ws s whenT=true
   ·rw [if_pos h1] at h ⊢
    exact one true h
   rw [if_neg h1] at h ⊢
   by_cases h2:isS ws s unlT=true
   ·rw [if_pos h2] at h ⊢
    exact one false h
   ·rw [if_neg h2] at h ⊢
    obtain ⟨a,b⟩:=ph_must h0 h
    exact none (y:=mustS ws s [59]) (by omega) b he
  ·rw [if_pos he] at h;exact absurd h he
theorem shows_le {n:Nat} (h:n < 18446744073709551616):(shows (n:Int)).length≤20:=by
 unfold shows
 rw [if_neg (by omega),Int.toNat_natCast]
 exact digs_len' h
theorem policy_told {n:Nat} {s:St} (hE:WsEnd ws) (hT:WsL ws) (hn:n < 18446744073709551616) (h0:0≤s.p) (h:(policyP ws n s).2.e=0):PolT (policyP ws n s).1∧wtP (policyP ws n s).1+1+ph ws s.p≤ph ws (policyP ws n s).2.p∧0≤(policyP ws n s).2.p:=by
 have hu:∀ s:St,(uidP ws s).2.e=0→s.e=0:=fun s h=>((Go0.uid hE).2 h).1
 unfold policyP at h ⊢
 unfold headP at h ⊢
 dsimp only at h ⊢
 have hp0:0≤(idP ws n s).2.p:=(Go0.id hE).1 h0
 have hid:(idP ws n s).2.e=0→ph ws s.p+(idP ws n s).1.length≤ph ws (idP ws n s).2.p+26∧0≤(idP ws n s).2.p:=fun he=>by
  unfold idP at he ⊢
  by_cases hi:isS ws s [64]=true
  ·rw [if_pos hi] at he ⊢
   dsimp only at he ⊢
   have e1:=(Fwd.must he).1
   have e2:=(Fwd.take e1).1
   have e3:=(Fwd.must e2).1
   have p0:=ph_adv (ws:=ws) h0
   obtain ⟨p1,q1⟩:=ph_must (s:=adv s) (by show 0≤s.p+1;omega) e3
   obtain ⟨p2,q2⟩:=ph_must q1 e2
   obtain ⟨p3,q3⟩:=ph_take q2 e1
   obtain ⟨p4,q4⟩:=ph_must q3 he
   exact ⟨by omega,q4⟩
  ·rw [if_neg hi] at he ⊢
   have:=shows_le hn
   refine ⟨?_,h0⟩
   dsimp only
   rw [List.length_append]
   simp only [List.length_cons,List.length_nil]
   omega
 generalize idP ws n s=ip at *
 have hperm:(if isS ws ip.2 permT then adv ip.2 else mustS ws ip.2 forbT).e=0→ip.2.e=0∧ph ws ip.2.p+24≤ph ws (if isS ws ip.2 permT then adv ip.2 else mustS ws ip.2 forbT).p∧0≤(if isS ws ip.2 permT then adv ip.2 else mustS ws ip.2 forbT).p:=fun he=>by
  have hp:=hp0
  by_cases hi:isS ws ip.2 permT=true
  ·rw [if_pos hi] at he ⊢
   have:=ph_adv (ws:=ws) hp
   exact ⟨he,by omega,by show 0≤ip.2.p+1;omega⟩
  ·rw [if_neg hi] at he ⊢
   obtain ⟨a,b⟩:=ph_must hp he
   exact ⟨(Fwd.must he).1,a,b⟩
 generalize (if isS ws ip.2 permT then adv ip.2 else mustS ws ip.2 forbT)=s2 at *
 generalize isS ws ip.2 permT=pm at *
 have e9:=((Go0.conds hE).2 h).1
 have e8:=(Fwd.must e9).1
 have e7:=((Go0.scope hE).2 e8).1
 have e6:=(Fwd.must e7).1
 have e5:=((Go0.action hE).2 e6).1
 have e4:=(Fwd.must e5).1
 have e3:=((Go0.scope hE).2 e4).1
 have e2:=(Fwd.must e3).1
 have t1:=scopeP_told hT e4
 have t2:=actionP_told hT hu e6
 have t3:=scopeP_told hT e8
 obtain ⟨e1,p2,q2⟩:=hperm e2
 obtain ⟨p1,-⟩:=hid e1
 obtain ⟨p3,q3⟩:=ph_must q2 e3
 obtain ⟨p4,q4,-⟩:=scope_ph q3 e4
 obtain ⟨p5,q5⟩:=ph_must q4 e5
 obtain ⟨p6,q6,-⟩:=action_ph q5 e6
 obtain ⟨p7,q7⟩:=ph_must q6 e7
 obtain ⟨p8,q8,-⟩:=scope_ph q7 e8
 obtain ⟨p9,q9⟩:=ph_must q8 e9
 obtain ⟨l,i1,i2,i3,i4,-⟩:=conds_told hT _ _ _ q9 h
 rw [i1]
 refine ⟨⟨t1,t2,t3,fun c hc=>?_⟩,?_,i4⟩
 ·have:=i2 c hc
  exact ⟨this.t,this.d,this.p,this.r⟩
 ·have e:∀ (id:Str) (p a r:Scp),wtP (addP ⟨id,pm,p,a,r,[]⟩ l)=id.length+wtS p+wtS a+wtS r+sumC l:=fun _ _ _ _=>rfl
  rw [e]
  omega
theorem polsF_told (hE:WsEnd ws) (hT:WsL ws) {N:Nat} (hN:N < 18446744073709551616):∀ (n:Nat) (l:List Pol) (s:St),n+l.length≤N→InS ws s→(polsF ws n l s).2.e=0→(∀ x∈l,PolT x) →
  (∀ x∈(polsF ws n l s).1,PolT x)∧wtQ (polsF ws n l s).1+ph ws s.p≤ph ws (polsF ws n l s).2.p+wtQ l∧InS ws (polsF ws n l s).2
 | 0,l,s,hn,hi,h,hl=>⟨hl,by show wtQ l+ph ws s.p≤ph ws s.p+wtQ l;omega,hi⟩
 | n+1,l,s,hn,hi,h,hl=>by
  rw [polsF] at h ⊢
  by_cases hk:wk ws s=0
  ·rw [if_pos hk] at h ⊢
   exact ⟨hl,by dsimp only;omega,hi⟩
  rw [if_neg hk] at h ⊢
  by_cases he:(policyP ws l.length s).2.e=0
  ·rw [if_neg (by simpa using he)] at h ⊢
   obtain ⟨a,b,c⟩:=policy_told hE hT (n:=l.length) (by omega) hi.1 he
   have hi2:=(((policy_go hE (n:=(l.length:Int)) (s:=s)).1).2 he).2.2 hi
   obtain ⟨d,e,f⟩:=polsF_told hE hT hN n (l++[(policyP ws l.length s).1]) _ (by rw [List.length_append,List.length_singleton];omega) hi2 h (fun x hx=>by
    rcases List.mem_append.1 hx with hx | hx
    ·exact hl x hx
    ·rw [List.mem_singleton.1 hx];exact a)
   have g:wtQ (l++[(policyP ws l.length s).1])=wtQ l+(wtP (policyP ws l.length s).1+1):=by unfold wtQ;simp
   rw [g] at e
   exact ⟨d,by omega,f⟩
  ·rw [if_pos he] at h;exact absurd h he
end
theorem pols_told {t:Str} (h:(polsS t).2.1=0):(∀ x∈(polsS t).1,PolT x)∧twiceB ((polsS t).1.map Pol.id)=false∧wtQ (polsS t).1≤25 * t.length+24:=by
 unfold polsS at h ⊢
 by_cases hl:65536 < t.length
 ·rw [if_pos hl] at h;exact absurd h (by decide)
 rw [if_neg hl] at h ⊢
 cases hw:words t with
 | error y=>rw [hw] at h;exact absurd h (w1_err _ _ _ _ hw)
 | ok l=>
  rw [hw] at h
  dsimp only at h ⊢
  have hE:=words_end hw
  have hT:=words_wsL hw
  have hs:=words_sum hw
  have hne:0 < l.length:=List.length_pos_iff.2 (w1_end _ _ _ l (by rw [List.length_drop];omega) hw).1
  have hc:24 * l.length≤sumW l:=by
   clear hw h hE hT hs hne hl
   unfold sumW
   induction l with
   | nil=>simp
   | cons a r ih=>rw [List.map_cons,List.sum_cons,List.length_cons];omega
  have key:=polsF_told hE hT (N:=l.length+1) (by omega) (l.length+1) [] (st0 0) (by simp) ⟨Int.le_refl 0,by show (0:Int) < l.length;omega⟩
  unfold polsL at h ⊢
  dsimp only at h ⊢
  by_cases he:(polsF l (l.length+1) [] (st0 0)).2.e=0
  ·rw [if_neg (by simpa using he)] at h ⊢
   cases ht:twiceB ((polsF l (l.length+1) [] (st0 0)).1.map Pol.id) with
   | true=>rw [ht,if_pos rfl] at h;exact absurd h (show ¬ (13:Int)=0 by decide)
   | false=>
    rw [if_neg (by decide)]
    obtain ⟨a,b,c⟩:=key he (fun x hx=>by cases hx)
    have c2:=c.2
    have c1:=c.1
    have a1:=phN_le l (polsF l (l.length+1) [] (st0 0)).2.p.toNat (by omega)
    have a2:=sumW_take l (polsF l (l.length+1) [] (st0 0)).2.p.toNat
    unfold ph at b
    refine ⟨a,ht,?_⟩
    have b:wtQ (polsF l (l.length+1) [] (st0 0)).1+0≤phN l (polsF l (l.length+1) [] (st0 0)).2.p.toNat+0:=b
    dsimp only
    omega
  ·rw [if_pos he] at h;exact absurd h he
theorem u_rep {F:Base} {v:Value} {l:List (Str×Str)} (h:SlU F v l):RepU F v l:=by
 obtain ⟨a,c,rfl,h1,h2,h3⟩:=h
 have e:(l.map uidC).length=l.length:=List.length_map ..
 exact ⟨a,c,by rw [e],by omega,by omega,fun i p hp=>h3 i _ (by rw [List.getElem?_map,hp];rfl)⟩
theorem c_rep {F:Base} {v:Value} {l:List (Bool×Ex')} (h:SlC F v l):RepCo F v l:=by
 obtain ⟨gs,⟨a,c,rfl,h1,h2,h3⟩,hr⟩:=h
 have e:=hr.len
 refine ⟨a,c,fun i=>(gs.getD i []).tail,by rw [e],by omega,by omega,fun i x hx=>?_,fun i x hx=>?_⟩
 ·obtain ⟨g,hg,cs,rfl,-⟩:=hr.at hx
  have:=h3 i _ hg
  dsimp only
  rw [List.getD_eq_getElem?_getD,hg]
  exact this
 ·obtain ⟨g,hg,cs,rfl,hcs⟩:=hr.at hx
  dsimp only
  rw [List.getD_eq_getElem?_getD,hg]
  exact hcs.toX
theorem i64q {k:Int} (h:0≤k) (h2:k≤9):I64 k:=by unfold I64;omega
theorem i64k {k:Int} (h:k=1∨k=2):I64 k:=i64q (by omega) (by omega)
theorem ScT.nil {x:Scp} (h:ScT x):x.list=[]∧I64 x.kind:=by
 cases h with
 | any=>exact ⟨rfl,i64q (k:=0) (by decide) (by decide)⟩
 | slot hk=>exact ⟨rfl,i64k hk⟩
 | uid hk _=>exact ⟨rfl,i64k hk⟩
 | ty _=>exact ⟨rfl,i64q (k:=3) (by decide) (by decide)⟩
 | tySlot _=>exact ⟨rfl,i64q (k:=4) (by decide) (by decide)⟩
 | tyUid _ _=>exact ⟨rfl,i64q (k:=4) (by decide) (by decide)⟩
theorem AcT.k {x:Scp} (h:AcT x):I64 x.kind:=by
 cases h with
 | any=>exact i64q (k:=0) (by decide) (by decide)
 | uid hk _=>exact i64k hk
 | list _=>exact i64q (k:=5) (by decide) (by decide)
theorem pol_rep {F:Base} {g:List Value} {x:Pol} (h:RepPol F g x) (t:PolT x):RepPolT F g x:=by
 obtain ⟨va,vc,rfl,h1,h2⟩:=h
 obtain ⟨e1,k1⟩:=t.p.nil
 obtain ⟨e2,k2⟩:=t.r.nil
 have n:RepU F v0 []:=u_rep SlU.nil
 exact ⟨v0,va,v0,vc,rfl,⟨k1,t.a.k,k2⟩,by rw [e1];exact n,u_rep h1,by rw [e2];exact n,c_rep h2⟩
theorem pols_rep {F:Base} {v:Value} {l:List Pol} (h:SlP F v l) (t:∀ x∈l,PolT x):RepPols F v l:=by
 obtain ⟨gs,⟨a,c,rfl,h1,h2,h3⟩,hr⟩:=h
 have e:=hr.len
 refine ⟨a,c,fun i=>gs.getD i [],by rw [e],by omega,by omega,fun i x hx=>?_,fun i x hx=>?_⟩
 ·obtain ⟨g,hg,-⟩:=hr.at hx
  dsimp only
  rw [List.getD_eq_getElem?_getD,hg]
  exact h3 i _ hg
 ·obtain ⟨g,hg,hp⟩:=hr.at hx
  dsimp only
  rw [List.getD_eq_getElem?_getD,hg]
  exact pol_rep hp (t x (List.mem_of_getElem? hx))
set_option maxHeartbeats 4000000 in
theorem pback_law (F:Base) (hg:HasMarks F) (hM:HasM F) (hMx:HasMx F) (hS:HasSigns F) (t:Str) (ht:t.length≤9223372036854775807):PureV Tryz.prog F 5 #[.string (bs t)] (.bool true):=by
 refine pureV_of_svc (args:=[.string (bs t)]) mixed Tryz.func5 low5 (Nat.le_of_ble_eq_true rfl) (fun w0=>?_)
 simp only [*,fu5,↓ZD,ZW,RO,simprocAttr]
 refine CallE.pure (awake_pure hM hS) ?_
 simp only [*,↓ZD,ZW,RO,simprocAttr]
 intro hl
 have hl:t.length≤2000:=by simp at hl;omega
 refine CallE.mk0 (pparse_does F hg hMx t ht) ?_
 have hpt:=@pols_told t
 generalize polsS t=R at *
 rintro _ H1 ⟨v1,rfl,s1,w1⟩ -
 simp only [*,↓ZD,ZW,RO,simprocAttr]
 intro h
 have he:R.2.1=0:=by simpa using h
 obtain ⟨hp,htw,hw⟩:=hpt he
 obtain ⟨xs,e,bad⟩:=R
 dsimp only at he hp htw hw s1
 clear hpt h
 subst he
 obtain ⟨ep,hb⟩:=pols_back hp htw
 have hr1:=pols_rep s1 hp
 have hpl:(polsT xs).length≤202 * wtQ xs:=by
  obtain ⟨a,c,g,-,-,-,-,k⟩:=hr1
  exact polsT_len fun x hx=>by
   obtain ⟨i,hi⟩:=List.getElem?_of_mem hx
   exact ⟨_,k i x hi⟩
 have hx:=policies_pure (hM.mono le_up) (hS.mono le_up) hr1 (by omega)
 rw [ep] at hx
 refine CallE.pureH hx ?_
 simp only [*,↓ZD,ZW,RO,simprocAttr]
 refine CallE.mk0 (pparse_does F hg hMx (polsT xs) (by omega)) ?_
 clear hx hr1
 generalize polsS (polsT xs)=R2 at *
 rintro _ H2 ⟨v2,rfl,s2,w2⟩ dj
 replace s1:=s1.mono fun b o h=>rdObj_app1 (Hx:=H2) h
 replace s2:=s2.mono fun b o h=>rdObj_r (Dj.iff.1 dj) h
 generalize H1++H2=H at *
 clear dj
 simp only [*,↓ZD,ZW,RO,simprocAttr]
 refine ⟨fun h=>?_,fun h=>?_⟩
 ·have h:R2.2.1≠0:=by simpa using h
  rcases hb with rfl | k | k
  ·exact absurd rfl h
  ·rw [k];rfl
  ·rw [k];rfl
 ·have h:R2.2.1=0:=by simpa using h
  rcases hb with rfl | k | k
  ·have hx2:=policies_pure (hM.mono le_up) (hS.mono le_up) (pols_rep s2 hp) (show wtQ xs≤1048576 by omega)
   rw [show pols ((xs,(0:Int),(0:Int)):List Pol×Int×Int).1=(polsT xs,0) from ep] at hx2
   refine CallE.pureH hx2 ?_
   simp only [*,↓ZD,ZW,RO,simprocAttr]
   refine CallE.pureH (sameps_pure _ xs s1 s2) ?_
   simp only [*,beq_self_eq_true,eq_self,↓ZD,ZW,RO,simprocAttr]
  ·rw [h] at k;exact absurd k (by decide)
  ·rw [h] at k;exact absurd k (by decide)
end Go.Proofs.YtoelfmmfjebabaaGreatDoor
