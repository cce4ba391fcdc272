/- Joined. -/
import Derived.Test.YtoelfmmfjebabaaGreatDoorJb
import Derived.Test.YtoelfmmfjebabaaGreatDoorJe
import Derived.Test.YtoelfmmfjebabaaGreatDoorJd
import Derived.Test.YtoelfmmfjebabaaGreatDoorRows
import Derived.LaidLaws
import Derived.LaidMore
import Derived.MakeChecks
import Derived.OpenShut
import Derived.ChangeArms
import Derived.FnData
import Derived.Test.YtoelfmmfjebabaaGreatDoorJa
set_option linter.unusedSectionVars false
namespace Go.Proofs.YtoelfmmfjebabaaGreatDoor
open Go Go.Eng
set_option maxHeartbeats 1000000
set_option linter.unusedSimpArgs false
set_option linter.unusedVariables false
set_option maxRecDepth 20000
def shiftW (k:Nat):Except (Int×Nat) (List (Wd×Nat))→Except (Int×Nat) (List (Wd×Nat))
 | .error (e,a)=>.error (e,a+k)
 | .ok l=>.ok (l.map fun x=>(x.1,x.2+k))
theorem w1_shift (k:Nat):∀ (n a:Nat) (s:List UInt8),w1 n (a+k) s=shiftW k (w1 n a s)
 | 0,_,_=>rfl
 | n+1,a,s=>by
  rw [w1,w1]
  split
  ·rfl
  ·split
   ·rfl
   ·rename_i w m _
    rw [show a+k+m+blankN (s.drop m)=a+m+blankN (s.drop m)+k by omega,w1_shift k n]
    cases w1 n (a+m+blankN (s.drop m)) (s.drop (m+blankN (s.drop m))) with
    | error x=>rfl
    | ok l=>rfl
theorem w1_fuel:∀ (n m a:Nat) (s:List UInt8),s.length < n→n≤m→w1 m a s=w1 n a s
 | 0,_,_,_,h,_=>absurd h (by omega)
 | n+1,0,_,_,_,h=>absurd h (by omega)
 | n+1,m+1,a,s,h,hm=>by
  rw [w1,w1]
  split
  ·rfl
  ·split
   ·rfl
   ·rename_i hs _ w k hk
    have h0:=tok_len hk
    have h1:=tok_le hs hk
    rw [w1_fuel n m _ _ (by rw [List.length_drop];omega) (by omega)]
theorem words_fuel (s:List UInt8) (n:Nat) (h:s.length < n):words s=w1 n (blankN s) (s.drop (blankN s)):=by
 unfold words
 rcases Nat.lt_or_ge n (s.length+1) with h1 | h1
 ·omega
 ·rw [w1_fuel (s.length+1) n _ _ (by rw [List.length_drop];omega) h1]
theorem blankN_all {A t:List UInt8} (h:A.all isB=true):blankN (A++t)=A.length+blankN t:=by
 induction A with
 | nil=>simp
 | cons c A ih=>
  rw [List.all_cons,Bool.and_eq_true] at h
  rw [List.cons_append,blankN_cons,if_pos h.1,ih h.2,List.length_cons];omega
theorem words_sp {A t:List UInt8} (h:A.all isB=true):words (A++t)=shiftW A.length (words t):=by
 have hb:blankN (A++t)=A.length+blankN t:=blankN_all h
 rw [words_fuel t ((A++t).length+1) (by simp;omega),words,hb,← w1_shift,Nat.add_comm (blankN t)]
 congr 1
 rw [← List.drop_drop,List.drop_left]
def Lexs (P:Str) (ks:List Wd) (ok:UInt8→Bool):Prop:=
 ∀ t l',(∀ c r,t=c::r→ok c=true)→words t=.ok l'→∃ l,words (P++t)=.ok (l++l'.map fun x=>(x.1,x.2+P.length))∧l.map Prod.fst=ks
theorem Lexs.app {P Q:Str} {kp kq:List Wd} {okP okQ:UInt8→Bool} (hP:Lexs P kp okP) (hQ:Lexs Q kq okQ) (hne:Q≠[]) (h:∀ c r,Q=c::r→okP c=true):Lexs (P++Q) (kp++kq) okQ:=fun t l' ht hw=>by
 obtain ⟨lq,h1,h2⟩:=hQ t l' ht hw
 obtain ⟨c,r,rfl⟩:=List.exists_cons_of_ne_nil hne
 obtain ⟨lp,h3,h4⟩:=hP (c::r++t) _ (fun d u e=>by injection e with e1 e2;subst e1;exact h _ r rfl) h1
 refine ⟨lp++lq.map fun x=>(x.1,x.2+P.length),?_,?_⟩
 ·rw [List.append_assoc,h3,List.map_append,List.map_map,List.append_assoc]
  congr 3
  apply List.map_congr_left
  intro x _
  simp only [Function.comp,List.length_append]
  congr 1;omega
 ·rw [List.map_append,h4,List.map_map,← h2];rfl
theorem Lexs.mono {P:Str} {ks:List Wd} {ok ok':UInt8→Bool} (h:Lexs P ks ok) (hk:∀ c,ok' c=true→ok c=true):Lexs P ks ok':=fun t l' ht hw=>h t l' (fun c r e=>hk c (ht c r e)) hw
abbrev any8:UInt8→Bool:=fun _=>true
theorem Lexs.app' {P Q:Str} {kp kq:List Wd} {okQ:UInt8→Bool} (hP:Lexs P kp any8) (hQ:Lexs Q kq okQ):Lexs (P++Q) (kp++kq) okQ:=by
 by_cases hne:Q=[]
 ·subst hne
  intro t l' ht hw
  obtain ⟨lq,h1,h2⟩:=hQ t l' ht hw
  obtain ⟨lp,h3,h4⟩:=hP t l' (fun _ _ _=>rfl) hw
  have:lq=[]:=by
   rw [List.nil_append,hw] at h1
   injection h1 with h1
   have:=congrArg List.length h1
   rw [List.length_append,List.length_map] at this
   exact List.eq_nil_of_length_eq_zero (by omega)
  subst this
  refine ⟨lp,by simpa using h3,?_⟩
  rw [← h2,h4];simp
 ·exact hP.app hQ hne fun _ _ _=>rfl
theorem Lexs.sp {A:Str} (h:A.all isB=true):Lexs A [] any8:=fun t l' _ hw=>⟨[],by rw [words_sp h,hw];rfl,rfl⟩
theorem Lexs.nil:Lexs [] [] any8:=Lexs.sp rfl
theorem Lexs.words {P:Str} {ks:List Wd} {ok:UInt8→Bool} (h:Lexs P ks ok):∃ l,Go.Proofs.YtoelfmmfjebabaaGreatDoor.words P=.ok l∧l.map Prod.fst=ks++[(0,[],0)]:=by
 obtain ⟨l,h1,h2⟩:=h [] [((0,[],0),0)] (fun c r e=>by cases e) rfl
 rw [List.append_nil] at h1
 exact ⟨_,h1,by rw [List.map_append,h2];rfl⟩
theorem Lexs.tok {P:Str} {w:Wd} {ok:UInt8→Bool} {c:UInt8} {r:Str} (hP:P=c::r) (hb:isB c=false) (hc:c≠47) (ht:∀ t,(∀ c r,t=c::r→ok c=true)→Go.Proofs.YtoelfmmfjebabaaGreatDoor.tok (P++t)=.ok (w,P.length)):Lexs P [w] ok:=fun t l' hk hw=>by
 have hb0:blankN (P++t)=0:=by
  rw [hP,List.cons_append,blankN_cons,if_neg (by simp [hb]),if_neg]
  show ¬ List.isPrefixOf [47,47] (c::(r++t))=true
  simp only [List.isPrefixOf,Bool.and_eq_true,beq_iff_eq]
  exact fun h=>hc h.1.symm
 refine ⟨[(w,0)],?_,rfl⟩
 have hne:P++t≠[]:=by rw [hP];simp
 have hw2:=words_fuel t (P++t).length (by rw [hP,List.length_append,List.length_cons];omega)
 rw [hw] at hw2
 unfold Go.Proofs.YtoelfmmfjebabaaGreatDoor.words
 rw [hb0,List.drop_zero,w1,if_neg hne,ht t hk]
 simp only
 rw [List.drop_left' rfl,← List.drop_drop,List.drop_left' rfl,show 0+P.length+blankN t=blankN t+P.length by omega,w1_shift,← hw2]
 rfl
theorem takeWhile_stop {p:UInt8→Bool} {P t:Str} (h:P.all p=true) (ht:∀ c r,t=c::r→p c=false):(P++t).takeWhile p=P:=by
 induction P with
 | nil=>
  cases t with
  | nil=>rfl
  | cons c r=>rw [List.nil_append,List.takeWhile_cons,ht c r rfl];rfl
 | cons c r ih=>
  rw [List.all_cons,Bool.and_eq_true] at h
  rw [List.cons_append,List.takeWhile_cons,h.1,if_pos rfl,ih h.2]
theorem nameX_app {P t:Str} (h:nameB P=true) (ht:∀ c r,t=c::r→isLD c=false):nameX (P++t)=P:=by
 cases P with
 | nil=>cases h
 | cons c r=>
  rw [nameB,Bool.and_eq_true] at h
  rw [List.cons_append,nameX,if_pos h.1,takeWhile_stop h.2 ht]
theorem isL_sp {c:UInt8} (h:isL c=true):isB c=false∧c≠47:=by
 have:∀ c:UInt8,isL c=true→isB c=false∧c≠47:=by apply all_u8;decide +kernel
 exact this c h
theorem isD_sp {c:UInt8} (h:isD c=true):isB c=false∧c≠47∧isL c=false:=by
 have:∀ c:UInt8,isD c=true→isB c=false∧c≠47∧isL c=false:=by apply all_u8;decide +kernel
 exact this c h
theorem tok_of {s:Str} {w:Wd} {m:Nat} (h:oneX s=(w,m,0)) (hm:m≠0):tok s=.ok (w,m):=by unfold tok;rw [h];simp [hm]
theorem Lexs.name {P:Str} (h:nameB P=true):Lexs P [(1,P,0)] fun c=>!isLD c:=by
 obtain ⟨c,r,rfl⟩:∃ c r,P=c::r:=by
  cases P with
  | nil=>cases h
  | cons c r=>exact ⟨c,r,rfl⟩
 have hc:isL c=true:=by rw [nameB,Bool.and_eq_true] at h;exact h.1
 obtain ⟨k1,k2⟩:=isL_sp hc
 refine .tok rfl k1 k2 fun t ht=>?_
 have hn:=nameX_app (t:=t) h fun c r e=>by have:=ht c r e;simpa using this
 refine tok_of ?_ (by simp)
 unfold oneX
 rw [show ((c::r)++t).getD 0 0=c from rfl,if_pos hc,hn]
theorem Lexs.slot {P:Str} (h:nameB P=true):Lexs (63::P) [(4,P,0)] fun c=>!isLD c:=by
 refine .tok rfl (by decide) (by decide) fun t ht=>?_
 have hn:=nameX_app (t:=t) h fun c r e=>by have:=ht c r e;simpa using this
 have hne:P≠[]:=by rintro rfl;cases h
 refine tok_of ?_ (by simp)
 have f1:¬ isL 63=true:=by decide
 have f2:¬ isD 63=true:=by decide
 have f3:¬ (63:UInt8)=34:=by decide
 unfold oneX
 rw [show ((63::P)++t).getD 0 0=63 from rfl,if_neg f1,if_neg f2,if_neg f3,if_pos rfl,show ((63::P)++t).drop 1=P++t from rfl,hn,if_neg hne]
 rfl
theorem Lexs.num {P:Str} {n:Int} (hP:P≠[]) (hd:P.all isD=true) (hr:readD false P=(n,0)):Lexs P [(2,P,n)] fun c=>!isD c:=by
 obtain ⟨c,r,rfl⟩:=List.exists_cons_of_ne_nil hP
 have hc:isD c=true:=by rw [List.all_cons,Bool.and_eq_true] at hd;exact hd.1
 obtain ⟨k1,k2,k3⟩:=isD_sp hc
 refine .tok rfl k1 k2 fun t ht=>?_
 have hn:=takeWhile_stop (t:=t) hd fun c r e=>by have:=ht c r e;simpa using this
 refine tok_of ?_ (by simp)
 have f1:¬ isL c=true:=by simp [k3]
 unfold oneX
 rw [show ((c::r)++t).getD 0 0=c from rfl,if_neg f1,if_pos hc,hn,hr]
theorem clo_q1 (c:UInt8) (r:List UInt8):clo false (q1 c++r)=(clo false r).map (·+(q1 c).length):=by
 have key:∀ c:UInt8,isP c=true→c≠34∧c≠92:=by apply all_u8;decide +kernel
 have hex:∀ n:Nat,n < 16→hexL.getD n 0≠34∧hexL.getD n 0≠92:=by decide
 unfold q1
 by_cases h:isP c=true
 ·obtain ⟨h1,h2⟩:=key c h
  rw [if_pos h,List.cons_append,List.nil_append,clo,if_neg (by simp [h1]),show (c==92)=false by simpa using h2]
  rfl
 ·rw [if_neg h]
  by_cases h2:((c.toNat:Int)==34||(c.toNat:Int)==92)=true
  ·rw [if_pos h2]
   simp only [List.cons_append,List.nil_append]
   rw [clo,if_neg (by decide),show ((92:UInt8)==92&&!false)=true from rfl,clo_skip,Option.map_map]
   rfl
  ·rw [if_neg h2]
   obtain ⟨a1,a2⟩:=hex (c.toNat / 16) (by have:=c.toNat_lt;omega)
   obtain ⟨b1,b2⟩:=hex (c.toNat % 16) (by omega)
   generalize hexL.getD (c.toNat / 16) 0=x at *
   generalize hexL.getD (c.toNat % 16) 0=y at *
   have x1:(x==34)=false:=by simpa using a1
   have x2:(x==92)=false:=by simpa using a2
   have y1:(y==34)=false:=by simpa using b1
   have y2:(y==92)=false:=by simpa using b2
   simp only [List.cons_append,List.nil_append]
   rw [clo,if_neg (by decide),show ((92:UInt8)==92&&!false)=true from rfl,clo_skip,clo,x1,x2,clo,y1,y2]
   simp only [Bool.false_and,Bool.false_eq_true,if_false,Option.map_map]
   rfl
theorem clo_flat (s t:List UInt8):clo false (s.flatMap q1++34::t)=some ((s.flatMap q1).length+1):=by
 induction s with
 | nil=>rw [List.flatMap_nil,List.nil_append,clo,if_pos (by decide)];rfl
 | cons c s ih=>rw [List.flatMap_cons,List.append_assoc,clo_q1,ih,List.length_append];simp;omega
theorem Lexs.quoted (s:Str):Lexs (quote s) [(3,s,0)] any8:=by
 refine .tok (c:=34) (r:=s.flatMap q1++[34]) rfl (by decide) (by decide) fun t _=>?_
 have hq:qX (quote s++t)=(s,(quote s).length):=by
  unfold qX
  have e1:(quote s++t).drop 1=s.flatMap q1++34::t:=by simp [quote]
  have e2:(quote s++t).take ((s.flatMap q1).length+1+1)=quote s:=List.take_left' (by simp [quote])
  rw [e1,clo_flat]
  simp only
  rw [e2,unquote_quote]
  simp [quote]
 have hl:(quote s).length≠0:=by simp [quote]
 refine tok_of ?_ hl
 have f1:¬ isL 34=true:=by decide
 have f2:¬ isD 34=true:=by decide
 unfold oneX
 rw [show (quote s++t).getD 0 0=34 from rfl,if_neg f1,if_neg f2,if_pos rfl,hq]
theorem tok_mark {c:UInt8} {s:Str} (h1:isL c=false) (h2:isD c=false) (h3:c≠34) (h4:c≠63) (hm:mX (c::s)≠[]):tok (c::s)=.ok ((5,mX (c::s),0),(mX (c::s)).length):=by
 have hl:(mX (c::s)).length≠0:=fun h=>hm (List.eq_nil_of_length_eq_zero h)
 refine tok_of ?_ hl
 have f1:¬ isL c=true:=by simp [h1]
 have f2:¬ isD c=true:=by simp [h2]
 unfold oneX
 rw [show (c::s).getD 0 0=c from rfl,if_neg f1,if_neg f2,if_neg h3,if_neg h4]
 by_cases hc:c=64
 ·have e:mX (c::s)=[64]:=if_pos hc
  rw [if_pos hc,e];rfl
 ·have e:mX (c::s)=markX (c::s):=if_neg hc
  rw [e] at hm
  rw [if_neg hc,if_neg hm,e]
theorem Lexs.mark1 {c:UInt8} (hc:onesR.contains c=true):Lexs [c] [(5,[c],0)] fun d=>!twosL.contains [c,d]:=by
 have key:∀ c:UInt8,onesR.contains c=true→isB c=false∧c≠47∧isL c=false∧isD c=false∧c≠34∧c≠63:=by apply all_u8;decide +kernel
 obtain ⟨k1,k2,k3,k4,k5,k6⟩:=key c hc
 refine .tok rfl k1 k2 fun t ht=>?_
 have hm:mX (c::t)=[c]:=by
  rw [mX_cons,if_neg,if_pos hc]
  cases t with
  | nil=>intro h;revert h;show ¬ twosL.contains [c]=true;simp [twosL]
  | cons d r=>have:=ht d r rfl;simpa using this
 rw [List.singleton_append,tok_mark k3 k4 k5 k6 (by rw [hm];simp),hm]
theorem Lexs.mark2 {c d:UInt8} (hm:twosL.contains [c,d]=true):Lexs [c,d] [(5,[c,d],0)] any8:=by
 have key:isB c=false∧c≠47∧isL c=false∧isD c=false∧c≠34∧c≠63:=by
  simp [twosL] at hm
  rcases hm with ⟨rfl,-⟩ | ⟨rfl,-⟩ | ⟨rfl,-⟩ | ⟨rfl,-⟩ | ⟨rfl,-⟩ | ⟨rfl,-⟩ | ⟨rfl,-⟩ <;> decide
 obtain ⟨k1,k2,k3,k4,k5,k6⟩:=key
 refine .tok rfl k1 k2 fun t ht=>?_
 have e:mX (c::d::t)=[c,d]:=by
  rw [mX_cons]
  rw [show (c::d::t).take 2=[c,d] from rfl,if_pos hm]
 rw [show [c,d]++t=c::d::t from rfl,tok_mark k3 k4 k5 k6 (by rw [e];simp),e]
def At (ws:Ws) (s:St) (K:List Wd):Prop:=s.e=0∧∀ (j:Nat) (w:Wd),K[j]?=some w→(wdAt ws (s.p+j)).1=w
section
variable {ws:Ws} {s:St} {K:List Wd} {w:Wd}
theorem At.hd (h:At ws s (w::K)):(wdAt ws s.p).1=w:=by have:=h.2 0 w rfl;rwa [show s.p+((0:Nat):Int)=s.p by omega] at this
theorem At.adv (h:At ws s (w::K)):At ws (adv s) K:=⟨h.1,fun j v hj=>by
 have:=h.2 (j+1) v (by simpa using hj)
 rwa [show s.p+((j+1:Nat):Int)=(Go.Proofs.YtoelfmmfjebabaaGreatDoor.adv s).p+(j:Int) by show s.p+((j+1:Nat):Int)=s.p+1+j;omega] at this⟩
theorem At.is (h:At ws s (w::K)) (t:Str):isS ws s t=(((w.1:Int)==5||(w.1:Int)==1)&&w.2.1==t):=by
 unfold isS wk wtx
 rw [h.1,h.hd]
 rfl
theorem At.wk (h:At ws s (w::K)):wk ws s=w.1:=by unfold Go.Proofs.YtoelfmmfjebabaaGreatDoor.wk;rw [h.hd]
theorem At.wtx (h:At ws s (w::K)):wtx ws s=w.2.1:=by unfold Go.Proofs.YtoelfmmfjebabaaGreatDoor.wtx;rw [h.hd]
theorem At.wn (h:At ws s (w::K)):wn ws s=w.2.2:=by unfold Go.Proofs.YtoelfmmfjebabaaGreatDoor.wn;rw [h.hd]
theorem At.must {k:Nat} {t:Str} {n:Int} (h:At ws s ((k,t,n)::K)) (hk:k=5∨k=1):mustS ws s t=Go.Proofs.YtoelfmmfjebabaaGreatDoor.adv s:=by
 unfold mustS
 rw [h.is,if_pos]
 rcases hk with rfl | rfl <;> simp
theorem At.take {k:Nat} {t:Str} {n:Int} {k':Int} (h:At ws s ((k,t,n)::K)) (hk:k'=k):takeS ws s k'=(t,Go.Proofs.YtoelfmmfjebabaaGreatDoor.adv s):=by
 unfold takeS
 rw [if_pos ⟨h.1,by rw [h.wk,hk]⟩,h.wtx]
theorem At.of {l:Ws} (hl:l.map Prod.fst=K) (d:Int):At l ⟨0,d,0,0⟩ K:=⟨rfl,fun j w hj=>by
 subst hl
 rw [List.getElem?_map] at hj
 obtain ⟨x,hx,rfl⟩:=Option.map_eq_some_iff.1 hj
 have hlt:=(List.getElem?_eq_some_iff.1 hx).1
 show (wdAt l (0+(j:Int))).1=x.1
 rw [Int.zero_add,wdAt_in hlt,List.getD_eq_getElem?_getD,hx];rfl⟩
end
abbrev mk (t:Str):Wd:=(5,t,0)
abbrev nm (t:Str):Wd:=(1,t,0)
theorem scope_bare {ws:Ws} {s:St} {K:List Wd} {t u:Str} (h:At ws s (nm t::mk u::K)) (h1:(u==[61,61])=false) (h2:(u==[105,110])=false) (h3:(u==[105,115])=false):scopeP ws s t=(sc0,adv s):=by
 unfold scopeP
 dsimp only
 rw [h.must (.inr rfl)]
 have ha:=h.adv
 rw [ha.is,ha.is,ha.is,h1,h2,h3]
 rfl
theorem action_bare {ws:Ws} {s:St} {K:List Wd} {u:Str} (h:At ws s (nm actN::mk u::K)) (h1:(u==[61,61])=false) (h2:(u==[105,110])=false):actionP ws s=(sc0,adv s):=by
 unfold actionP
 dsimp only
 rw [h.must (.inr rfl)]
 have ha:=h.adv
 rw [ha.is,ha.is,h1,h2]
 rfl
def idK (t:Str):List Wd:=[mk [64],nm [105,100],mk [40],(3,t,0),mk [41]]
def advn:Nat→St→St
 | 0,s=>s
 | n+1,s=>advn n (adv s)
theorem advn_eq (n:Nat) (s:St):advn n s=⟨s.p+n,s.deep,s.e,s.bad⟩:=by
 induction n generalizing s with
 | zero=>simp [advn]
 | succ n ih=>
  rw [advn,ih]
  show (⟨s.p+1+(n:Int),s.deep,s.e,s.bad⟩:St)=_
  congr 1;omega
theorem id_go {ws:Ws} {s:St} {K:List Wd} (t:Str) (n:Int) (h:At ws s (idK t++K)):policyP ws n s=permB ws t (advn 5 s)∧At ws (advn 5 s) K:=by
 have a0:At ws s (mk [64]::nm [105,100]::mk [40]::(3,t,0)::mk [41]::K):=h
 have a1:=a0.adv;have a2:=a1.adv;have a3:=a2.adv;have a4:=a3.adv;have a5:=a4.adv
 refine ⟨?_,a5⟩
 rw [policyP_eq,a0.is,if_pos (by decide)]
 unfold quotP
 rw [a1.must (.inr rfl),a2.must (.inl rfl),a3.take (k':=3) rfl]
 dsimp only
 rw [a4.must (.inl rfl)]
 rfl
end Go.Proofs.YtoelfmmfjebabaaGreatDoor
namespace Go.Proofs.YtoelfmmfjebabaaGreatDoor
open Go
set_option linter.unusedSimpArgs false
set_option linter.unusedVariables false
set_option maxRecDepth 20000
theorem lx_laid:Rows.laid_chamberlain_lex_marks (H:=Unit)=.agg (marksL.map fun m=>.lit (.string m)):=by kernel_rfl
theorem lx_global : Tryz.prog.globalNamed "chamberlain/lex.marks" = some 1 := by kernel_rfl
theorem lx_type:(Tryz.prog.globals[1]?).map (·.type)=some 112:=by kernel_rfl
theorem lx_cells:Tryz.prog.cellsOf 9=1:=by kernel_rfl
theorem lx_cells2:Tryz.prog.cellsOf 112=23:=by kernel_rfl
theorem hasMarks_of {w : World} (h : laidMetH Tryz.prog [("chamberlain/lex.marks", Rows.laid_chamberlain_lex_marks)] w) : HasMarks (fun b => w.heap[b]?) := by
 rw [MakeChecks.laidMetH_plain _ _ _ (by kernel_rfl)] at h
 obtain ⟨ps,⟨g0,t0,cs0,f0,p0,q0,hg0,ht0,hv0,hd0,-,-⟩,-,-⟩:=h
 obtain rfl:=Option.some.inj (lx_global.symm.trans hg0)
 obtain rfl:=Option.some.inj (lx_type.symm.trans ht0)
 obtain ⟨xs,m1,rfl,hx1,hlen,hn3,hel⟩:=DataW.trod_array Tryz.underlying112 hd0
 rw [lx_laid] at hx1
 rw [lx_cells2] at hlen
 simp only [Prod.mk.injEq,DataW.agg.injEq] at hx1
 have key:cs0.toList=marksL.map fun x=>Value.string (Eng.bs x):=by
  apply List.ext_getElem?
  intro i
  rcases Nat.lt_or_ge i 23 with hi | hi
  ·have h0:=hel i hi
   rw [lx_cells,Nat.mul_one] at h0
   obtain ⟨x,hx⟩:∃ x,xs[i]?=some x:=⟨_,List.getElem?_eq_getElem (by omega)⟩
   rw [hx] at h0
   obtain ⟨s,e1,e2,-⟩:=DataW.trod_string Tryz.underlying9 h0
   have h2:(marksL.map fun m=>(DataW.lit (Lit.string m):DataW Unit))[i]?=some (.lit (.string s.data.toList)):=by
    rw [hx1.1,List.getElem?_map,hx,e2];rfl
   have hi2:i < marksL.length:=hi
   rw [List.getElem?_map,List.getElem?_eq_getElem hi2] at h2
   simp only [Option.map_some,Option.some.injEq,DataW.lit.injEq] at h2
   rw [List.getElem?_map,List.getElem?_eq_getElem hi2,← List.head?_drop]
   have h3:(cs0.toList.drop i).head?=((cs0.toList.drop i).take 1).head?:=by cases cs0.toList.drop i <;> rfl
   rw [h3,e1]
   simp only [List.head?_cons,Option.map_some,Option.some.injEq,Value.string.injEq]
   have h4:marksL[i]=s.data.toList:=by simpa using h2
   rw [h4]
   cases s;rfl
  ·rw [List.getElem?_eq_none (by omega),List.getElem?_eq_none (by rw [List.length_map];exact hi)]
 simp only [World.var?,hg0,Option.bind_some] at hv0
 cases hb:w.heap[(1:Nat)]? with
 | none=>rw [hb] at hv0;cases hv0
 | some o=>
  rw [hb] at hv0
  cases o with
  | cells c T fz=>
   simp only [Option.some.injEq] at hv0
   subst hv0
   refine ⟨T,fz,?_⟩
   show w.heap[(1:Nat)]?=_
   rw [hb,← key]
  | _=>cases hv0
theorem hasM_of {w:World} (hsh:w.ShapedOpen Tryz.prog):HasMx (fun b=>w.heap[b]?):=by
 obtain ⟨m,h⟩:=Go.Proofs.cell_of_shapedOpen_int (g:=2) (zero:=#[.int .i64 0]) (t:=3) hsh (of_decide_eq_true (by kernel_rfl)) (by kernel_rfl) rfl (by kernel_rfl) (by kernel_rfl) Tryz.underlying3
 unfold World.cell? at h
 split at h
 ·rename_i c T fz hb
  exact ⟨c,T,fz,m,hb,by simpa using h⟩
 ·simp at h
end Go.Proofs.YtoelfmmfjebabaaGreatDoor
namespace Go.Proofs.YtoelfmmfjebabaaGreatDoor
open Go Go.Eng
set_option maxHeartbeats 1000000
set_option linter.unusedSimpArgs false
set_option linter.unusedVariables false
set_option maxRecDepth 20000
def Pr (ws:Ws) (nt:NT) (s:St) (x:Ex') (s':St) (B:Int):Prop:=∀ n y,G ws n nt s=some y→y=(x,s')∨(y.2.e=11∧50 < B)
def mvn (s:St) (k:Nat):St:=⟨s.p+k,s.deep,s.e,s.bad⟩
theorem mvn_mvn (s:St) (j k:Nat):mvn (mvn s j) k=mvn s (j+k):=by unfold mvn;congr 1;show s.p+j+k=s.p+((j+k:Nat):Int);omega
theorem adv_mvn (s:St):adv s=mvn s 1:=rfl
theorem inn_mvn (s:St) (k:Nat):inn (mvn s k)=mvn (inn s) k:=rfl
theorem out_inn (s:St):out1 (inn s)=s:=by
 unfold out1 inn
 ext1
 ·rfl
 ·show s.deep+1 - 1=s.deep;omega
 ·rfl
 ·rfl
theorem At.dropN {ws:Ws} {s:St} {K1 K2:List Wd} (h:At ws s (K1++K2)):At ws (mvn s K1.length) K2:=⟨h.1,fun j w hj=>by
 have:=h.2 (K1.length+j) w (by rw [List.getElem?_append_right (by omega),show K1.length+j - K1.length=j by omega];exact hj)
 rwa [show s.p+((K1.length+j:Nat):Int)=(mvn s K1.length).p+j by show s.p+((K1.length+j:Nat):Int)=s.p+K1.length+j;omega] at this⟩
theorem At.inn {ws:Ws} {s:St} {K:List Wd} (h:At ws s K):At ws (inn s) K:=h
def wIs (w:Wd) (t:Str):Bool:=((w.1:Int)==5||(w.1:Int)==1)&&w.2.1==t
theorem At.wis {ws:Ws} {s:St} {K:List Wd} {w:Wd} (h:At ws s (w::K)) (t:Str):isS ws s t=wIs w t:=h.is t
def noneB (l:List Str) (w:Wd):Bool:=l.all fun t=>!wIs w t
theorem noneB_of {l:List Str} {w:Wd} {t:Str} (h:noneB l w=true) (ht:t∈l):wIs w t=false:=by
 have:=List.all_eq_true.1 h t ht
 simpa using this
theorem noneB_sub {l l':List Str} {w:Wd} (h:noneB l w=true) (hs:∀ t∈l',t∈l):noneB l' w=true:=List.all_eq_true.2 fun t ht=>by
 rw [noneB_of h (hs t ht)];rfl
abbrev zN:List Str:=[[58,58],[40]]
abbrev z0:List Str:=zN++[[91],[46]]
abbrev z3:List Str:=z0++[[42]]
abbrev z2:List Str:=z3++[[43],[45]]
abbrev zR:List Str:=z2++[[61,61],[33,61],[60],[60,61],[62],[62,61],[105,110],[104,97,115],[105,115]]
abbrev z1:List Str:=zR++[[38,38]]
abbrev zA:List Str:=z1++[[124,124]]
section
variable {ws:Ws}
theorem Pr.mono {nt:NT} {s s':St} {x:Ex'} {B B':Int} (h:Pr ws nt s x s' B) (hb:B≤B'):Pr ws nt s x s' B':=fun n y hy=>by
 rcases h n y hy with h | ⟨h1,h2⟩
 ·exact .inl h
 ·exact .inr ⟨h1,by omega⟩
theorem Pr.step {nt:NT} {s s':St} {x:Ex'} {B:Int} (he:s.e=0) (h:∀ n y,stepG ws (G ws n) nt s=some y→y=(x,s')∨(y.2.e=11∧50 < B)):Pr ws nt s x s' B:=fun n y hy=>by
 cases n with
 | zero=>rw [show G ws 0 nt s=none from if_pos he] at hy;cases hy
 | succ n=>rw [G_succ,if_pos he] at hy;exact h n y hy
theorem bad_keep {n:Nat} {nt:NT} {s:St} {y:Ex'×St} (hy:G ws n nt s=some y) (h:s.e=11):y.2.e=11:=by
 rw [G_at (by rw [h];decide)] at hy
 simp only [Option.some.injEq] at hy
 subst hy;exact h
theorem must_keep {s:St} {t:Str} (h:s.e=11):(mustS ws s t).e=11:=by
 unfold mustS
 rw [isS_err (by rw [h];decide),if_neg (by decide),failS_err (by rw [h];decide)]
 exact h
theorem Pr.bind {n:Nat} {nt:NT} {s s1 s':St} {a x:Ex'} {B:Int} {f:Ex'×St→Option (Ex'×St)} {y:Ex'×St} (hy:(G ws n nt s).bind f=some y) (h1:Pr ws nt s a s1 B)
  (hk:∀ z,z.2.e=11→f z=some y→y.2.e=11) (h2:f (a,s1)=some y→y=(x,s')∨(y.2.e=11∧50 < B)):y=(x,s')∨(y.2.e=11∧50 < B):=by
 obtain ⟨z,g1,g2⟩:=bind_some hy
 rcases h1 _ _ g1 with rfl | ⟨e,hb⟩
 ·exact h2 g2
 ·exact .inr ⟨hk z e g2,hb⟩
theorem Pr.map {n:Nat} {nt:NT} {s s1 s':St} {a x:Ex'} {B:Int} {f:Ex'×St→Ex'×St} {y:Ex'×St} (hy:(G ws n nt s).map f=some y) (h1:Pr ws nt s a s1 B)
  (hk:∀ z,z.2.e=11→(f z).2.e=11) (h2:f (a,s1)=(x,s')):y=(x,s')∨(y.2.e=11∧50 < B):=by
 obtain ⟨z,g1,rfl⟩:=map_some' hy
 rcases h1 _ _ g1 with rfl | ⟨e,hb⟩
 ·exact .inl h2
 ·exact .inr ⟨hk z e,hb⟩
theorem opAt_no {s:St} {K:List Wd} {w:Wd} (k:Nat) (h:At ws s (w::K)) (hq:∀ t∈(match k with | 0=>[[124,124]] | 1=>[[38,38]] | 2=>[[43],[45]] | _=>[[42]]:List Str),wIs w t=false):opAt ws k s=0:=by
 match k with
 | 0=>simp only [opAt];rw [h.wis,hq _ (by simp),if_neg (by decide)]
 | 1=>simp only [opAt];rw [h.wis,hq _ (by simp),if_neg (by decide)]
 | 2=>simp only [opAt];rw [h.wis,h.wis,hq _ (by simp),hq [45] (by simp),if_neg (by decide),if_neg (by decide)]
 | k+3=>simp only [opAt];rw [h.wis,hq _ (by simp),if_neg (by decide)]
theorem rows_end {k:Nat} {s:St} {x:Ex'} {B:Int} (he:s.e=0) (h:opAt ws k s=0):Pr ws (.rows k x) s x s B:=.step he fun n y hy=>by
 simp only [stepG] at hy
 rw [if_pos h] at hy
 exact .inl (Option.some.inj hy).symm
theorem lev_of {k:Nat} {s s1 s':St} {a x:Ex'} {B:Int} (he:s.e=0) (h1:Pr ws (lowN k) s a s1 B) (h2:Pr ws (.rows k a) s1 x s' B):Pr ws (.lev k) s x s' B:=.step he fun n y hy=>by
 simp only [stepG] at hy
 exact Pr.bind hy h1 (fun z e h=>bad_keep h e) (fun h=>h2 _ _ h)
theorem lev_up {k:Nat} {s s':St} {x:Ex'} {B:Int} (he:s.e=0) (h1:Pr ws (lowN k) s x s' B) (hs:s'.e=0) (h:opAt ws k s'=0):Pr ws (.lev k) s x s' B:=lev_of he h1 (rows_end hs h)
theorem lev_two {k:Nat} {op:Int} {s s1 s':St} {a b:Ex'} {B:Int} (he:s.e=0) (h1:Pr ws (lowN k) s a s1 B) (he1:s1.e=0) (ho:opAt ws k s1=op) (hop:op≠0) (h2:Pr ws (lowN k) (adv s1) b s' B) (hs:s'.e=0) (h:opAt ws k s'=0):Pr ws (.lev k) s (twoX op a b) s' B:=
 lev_of he h1 (.step he1 fun n y hy=>by
  simp only [stepG] at hy
  rw [if_neg (by rw [ho];exact hop),ho] at hy
  exact Pr.bind hy h2 (fun z e h=>bad_keep h e) (fun h3=>rows_end hs h _ _ h3))
theorem rel_up {s s':St} {x:Ex'} {B:Int} {w:Wd} {R:List Wd} (he:s.e=0) (h1:Pr ws (.lev 2) s x s' B) (h:At ws s' (w::R)) (hq:noneB zR w=true):Pr ws .rel s x s' B:=.step he fun n y hy=>by
 simp only [stepG,relG] at hy
 refine Pr.bind hy h1 (fun z e h=>?_) (fun h2=>?_)
 ·have k:∀ t,isS ws z.2 t=false:=fun t=>isS_err (by rw [e];decide)
  simp only [k,Bool.false_eq_true,if_false,Option.some.injEq] at h
  subst h;exact e
 ·have k:∀ t∈zR,isS ws s' t=false:=fun t ht=>by rw [h.wis];exact noneB_of hq ht
  simp only [k [61,61] (by simp),k [33,61] (by simp),k [60] (by simp),k [60,61] (by simp),k [62] (by simp),k [62,61] (by simp),k [105,110] (by simp),k [104,97,115] (by simp),k [105,115] (by simp),Bool.false_eq_true,if_false,Option.some.injEq] at h2
  exact .inl h2.symm
theorem up3 {s s':St} {x:Ex'} {B:Int} {w:Wd} {R:List Wd} (he:s.e=0) (h1:Pr ws .unary s x s' B) (h:At ws s' (w::R)) (hq:noneB z3 w=true):Pr ws (.lev 3) s x s' B:=lev_up (k:=3) he h1 h.1 (opAt_no 3 h fun t ht=>noneB_of hq (by simp at ht;subst ht;simp))
theorem up2 {s s':St} {x:Ex'} {B:Int} {w:Wd} {R:List Wd} (he:s.e=0) (h1:Pr ws .unary s x s' B) (h:At ws s' (w::R)) (hq:noneB z2 w=true):Pr ws (.lev 2) s x s' B:=lev_up (k:=2) he (up3 he h1 h (noneB_sub hq fun t ht=>List.mem_append_left _ ht)) h.1 (opAt_no 2 h fun t ht=>noneB_of hq (by simp at ht;rcases ht with rfl | rfl <;> simp))
end
section
variable {ws:Ws}
theorem fail_deep {s:St} (h:s.e=0):(failS ws s 11).e=11:=by unfold failS;rw [if_pos h]
theorem isIn {s:St} {t:Str}:isS ws (inn s) t=isS ws s t:=rfl
theorem expr_of {s s':St} {x:Ex'} {B:Int} {w:Wd} {K:List Wd} (h0:At ws s (w::K)) (hif:wIs w [105,102]=false) (hB:s.deep+1≤B) (h:Pr ws (.lev 0) (inn s) x (inn s') B):Pr ws .expr s x s' B:=.step h0.1 fun n y hy=>by
 simp only [stepG] at hy
 split at hy
 ·simp only [Option.some.injEq] at hy
  subst hy;exact .inr ⟨fail_deep h0.1,by omega⟩
 ·have e:choiceG ws (G ws n) (inn s)=G ws n (.lev 0) (inn s):=by
   unfold choiceG;rw [isIn,h0.wis,hif,if_neg (by decide)]
  rw [e] at hy
  exact Pr.map hy h (fun z e=>e) (by rw [out_inn])
theorem unary_of {s s':St} {x:Ex'} {B:Int} {w:Wd} {K:List Wd} (h0:At ws s (w::K)) (h1:wIs w [33]=false) (h2:wIs w [45]=false) (hB:s.deep+1≤B) (h:Pr ws .member (inn s) x (inn s') B):Pr ws .unary s x s' B:=.step h0.1 fun n y hy=>by
 simp only [stepG] at hy
 split at hy
 ·simp only [Option.some.injEq] at hy
  subst hy;exact .inr ⟨fail_deep h0.1,by omega⟩
 ·have e:prefG ws (G ws n) (inn s)=G ws n .member (inn s):=by
   unfold prefG;rw [isIn,isIn,h0.wis,h0.wis,h1,h2,if_neg (by decide),if_neg (by decide)]
  rw [e] at hy
  exact Pr.map hy h (fun z e=>e) (by rw [out_inn])
theorem unary_pre {s s':St} {a:Ex'} {B:Int} {op:Int} {c:UInt8} {K:List Wd} (hc:(c=33∧op=6)∨(c=45∧op=14)) (h0:At ws s (mk [c]::K)) (hB:s.deep+1≤B) (h:Pr ws .unary (inn (adv s)) a (inn s') B):Pr ws .unary s (oneX' op [] a) s' B:=.step h0.1 fun n y hy=>by
 simp only [stepG] at hy
 split at hy
 ·simp only [Option.some.injEq] at hy
  subst hy;exact .inr ⟨fail_deep h0.1,by omega⟩
 ·have e:prefG ws (G ws n) (inn s)=(G ws n .unary (inn (adv s))).map fun a=>(oneX' op [] a.1,a.2):=by
   unfold prefG
   rw [isIn,isIn,h0.wis,h0.wis]
   rcases hc with ⟨rfl,rfl⟩ | ⟨rfl,rfl⟩
   ·rw [if_pos (by decide)];rfl
   ·rw [if_neg (by decide),if_pos (by decide)];rfl
  rw [e,Option.map_map] at hy
  exact Pr.map hy h (fun z e=>e) (by simp only [Function.comp];rw [out_inn])
def Mb (ws:Ws) (s:St) (x:Ex') (s':St) (B:Int):Prop:=∀ n y,G ws n .member s=some y→(∃ m,G ws m (.mems x) s'=some y)∨(y.2.e=11∧50 < B)
theorem Mb.mono {s s':St} {x:Ex'} {B B':Int} (h:Mb ws s x s' B) (hb:B≤B'):Mb ws s x s' B':=fun n y hy=>by
 rcases h n y hy with h | ⟨h1,h2⟩
 ·exact .inl h
 ·exact .inr ⟨h1,by omega⟩
theorem mb_prim {s s':St} {x:Ex'} {B:Int} (he:s.e=0) (h:Pr ws .prim s x s' B):Mb ws s x s' B:=fun n y hy=>by
 cases n with
 | zero=>rw [show G ws 0 .member s=none from if_pos he] at hy;cases hy
 | succ n=>
  rw [G_succ,if_pos he] at hy
  simp only [stepG] at hy
  obtain ⟨z,g1,g2⟩:=bind_some hy
  rcases h _ _ g1 with rfl | ⟨e,hb⟩
  ·exact .inl ⟨n,g2⟩
  ·exact .inr ⟨bad_keep g2 e,hb⟩
theorem mems_at {s:St} {x:Ex'} {n:Nat} {y:Ex'×St} (he:s.e=0) (h:G ws n (.mems x) s=some y):∃ m,memsG ws (G ws m) x s=some y:=by
 cases n with
 | zero=>rw [show G ws 0 (.mems x) s=none from if_pos he] at h;cases h
 | succ n=>rw [G_succ,if_pos he] at h;exact ⟨n,h⟩
theorem member_of {s s':St} {x:Ex'} {B:Int} {w:Wd} {R:List Wd} (h:Mb ws s x s' B) (h1:At ws s' (w::R)) (hq:noneB z0 w=true):Pr ws .member s x s' B:=fun n y hy=>by
 rcases h n y hy with ⟨m,g⟩ | g
 ·obtain ⟨m,g⟩:=mems_at h1.1 g
  unfold memsG at g
  rw [h1.wis,h1.wis,noneB_of hq (by simp),noneB_of hq (t:=[46]) (by simp),if_neg (by decide),if_neg (by decide)] at g
  simp only [Option.some.injEq] at g
  exact .inl g.symm
 ·exact .inr g
theorem mb_dot {s s1:St} {o:Ex'} {B:Int} {t:Str} {w:Wd} {R:List Wd} (h:Mb ws s o s1 B) (h1:At ws s1 (mk [46]::nm t::w::R)) (hw:wIs w [40]=false):Mb ws s (oneX' 18 t o) (mvn s1 2) B:=fun n y hy=>by
 rcases h n y hy with ⟨m,g⟩ | g
 ·obtain ⟨m,g⟩:=mems_at h1.1 g
  have a2:=h1.adv
  have a3:=a2.adv
  unfold memsG at g
  rw [h1.wis,h1.wis,if_neg (by decide),if_pos (by decide)] at g
  dsimp only at g
  rw [a2.take (k':=1) rfl] at g
  dsimp only at g
  rw [a3.wis,hw,if_pos rfl] at g
  exact .inl ⟨m,by rw [show mvn s1 2=adv (adv s1) by rw [adv_mvn,adv_mvn,mvn_mvn]];exact g⟩
 ·exact .inr g
theorem mb_get {s s1:St} {o:Ex'} {B:Int} {t:Str} {R:List Wd} (h:Mb ws s o s1 B) (h1:At ws s1 (mk [91]::(3,t,0)::mk [93]::R)):Mb ws s (oneX' 18 t o) (mvn s1 3) B:=fun n y hy=>by
 rcases h n y hy with ⟨m,g⟩ | g
 ·obtain ⟨m,g⟩:=mems_at h1.1 g
  have a2:=h1.adv
  have a3:=a2.adv
  unfold memsG at g
  rw [h1.wis,if_pos (by decide),a2.take (k':=3) rfl] at g
  dsimp only at g
  rw [a3.must (.inl rfl)] at g
  exact .inl ⟨m,by rw [show mvn s1 3=adv (adv (adv s1)) by rw [adv_mvn,adv_mvn,adv_mvn,mvn_mvn,mvn_mvn]];exact g⟩
 ·exact .inr g
theorem mb_meth {s s1 s2:St} {o b:Ex'} {B:Int} {t:Str} {op:Int} {K R:List Wd} (h:Mb ws s o s1 B) (h1:At ws s1 (mk [46]::nm t::mk [40]::K)) (ht:methI t=op) (ho:op≠0) (h2:Pr ws .expr (mvn s1 3) b s2 B) (h3:At ws s2 (mk [41]::R)):Mb ws s (twoX op o b) (adv s2) B:=fun n y hy=>by
 rcases h n y hy with ⟨m,g⟩ | g
 ·obtain ⟨m,g⟩:=mems_at h1.1 g
  have a2:=h1.adv
  have a3:=a2.adv
  unfold memsG at g
  rw [h1.wis,h1.wis,if_neg (by decide),if_pos (by decide)] at g
  dsimp only at g
  rw [a2.take (k':=1) rfl] at g
  dsimp only at g
  rw [a3.wis,if_neg (by decide),ht,if_neg ho] at g
  rw [show adv (adv (adv s1))=mvn s1 3 by rw [adv_mvn,adv_mvn,adv_mvn,mvn_mvn,mvn_mvn]] at g
  obtain ⟨z,g1,g2⟩:=bind_some g
  rcases h2 _ _ g1 with rfl | ⟨e,hb⟩
  ·dsimp only at g2
   rw [h3.must (.inl rfl)] at g2
   exact .inl ⟨m,g2⟩
  ·exact .inr ⟨bad_keep g2 (must_keep e),hb⟩
 ·exact .inr g
theorem prim_par {s s1:St} {x:Ex'} {B:Int} {K R:List Wd} (h:At ws s (mk [40]::K)) (h1:Pr ws .expr (adv s) x s1 B) (h2:At ws s1 (mk [41]::R)):Pr ws .prim s x (adv s1) B:=.step h.1 fun n y hy=>by
 simp only [stepG,primG] at hy
 rw [h.wk,if_neg (by decide),if_neg (by decide),if_neg (by decide),if_neg (by decide),h.wis,if_pos (by decide)] at hy
 exact Pr.map hy h1 (fun z e=>must_keep e) (by dsimp only;rw [h2.must (.inl rfl)])
theorem prim_num {s:St} {t:Str} {n:Int} {R:List Wd} (h:At ws s ((2,t,n)::R)) (B:Int):Pr ws .prim s (litX ⟨2,false,n,[],[],[]⟩) (adv s) B:=.step h.1 fun m y hy=>by
 simp only [stepG,primG] at hy
 have hk:wk ws s=2:=h.wk
 rw [hk,if_pos (by decide),h.wn] at hy
 exact .inl (Option.some.inj hy).symm
theorem prim_txt {s:St} {t:Str} {n:Int} {R:List Wd} (h:At ws s ((3,t,n)::R)) (B:Int):Pr ws .prim s (litX ⟨3,false,0,t,[],[]⟩) (adv s) B:=.step h.1 fun m y hy=>by
 simp only [stepG,primG] at hy
 have hk:wk ws s=3:=h.wk
 rw [hk,if_neg (by decide),if_pos (by decide),h.wtx] at hy
 exact .inl (Option.some.inj hy).symm
theorem prim_slot {s:St} {t:Str} {n:Int} {R:List Wd} (h:At ws s ((4,t,n)::R)) (ht:t∈slotL) (B:Int):Pr ws .prim s (.mk 3 lv0 t [] []) (adv s) B:=.step h.1 fun m y hy=>by
 simp only [stepG,primG] at hy
 have hk:wk ws s=4:=h.wk
 rw [hk,if_neg (by decide),if_neg (by decide),if_pos (by decide),h.wtx,if_pos ht] at hy
 exact .inl (Option.some.inj hy).symm
theorem prim_name {s:St} {t:Str} {n:Int} {R:List Wd} (h:At ws s ((1,t,n)::R)) (B:Int):Pr ws .prim s (nameG ws s).1 (nameG ws s).2 B:=.step h.1 fun m y hy=>by
 simp only [stepG,primG] at hy
 have hk:wk ws s=1:=h.wk
 rw [hk,if_neg (by decide),if_neg (by decide),if_neg (by decide),if_pos (by decide)] at hy
 exact .inl (Option.some.inj hy).symm
theorem At.wd1 {s:St} {K:List Wd} {w v:Wd} (h:At ws s (w::v::K)):(wdAt ws (s.p+1)).1=v:=h.adv.hd
theorem name_bool {s:St} {n:Int} {R:List Wd} (b:Bool) (h:At ws s ((1,if b then [116,114,117,101] else [102,97,108,115,101],n)::R)):nameG ws s=(litX ⟨1,b,0,[],[],[]⟩,adv s):=by
 unfold nameG
 rw [h.wtx]
 cases b with
 | true=>rw [if_pos (.inl rfl)];rfl
 | false=>rw [if_pos (.inr rfl)];rfl
theorem name_var {s:St} {t:Str} {n:Int} {w:Wd} {R:List Wd} (h:At ws s ((1,t,n)::w::R)) (ht:t∈varL) (hw:wIs w [58,58]=false):nameG ws s=(.mk 2 lv0 t [] [],adv s):=by
 unfold nameG
 rw [h.wtx,if_neg (by simp [varL] at ht;rcases ht with rfl | rfl | rfl | rfl <;> simp),h.wd1,if_neg (fun e=>by unfold wIs at hw;rw [e.2,e.1] at hw;simp at hw),if_pos ht]
end
abbrev cK:Str:=[58,58]
inductive PathK:Str→List Wd→Prop
 | one {t:Str}:nameB t=true→PathK t [nm t]
 | more {t u:Str} {ks:List Wd}:nameB t=true→PathK u ks→PathK (t++(58::58::u)) (nm t::mk cK::ks)
def TyK (ty:Str) (ks:List Wd):Prop:=PathK ty ks∧∃ t K,ks=nm t::K∧t∉ownL
section
variable {ws:Ws}
theorem in_at {s:St} {w:Wd} {K:List Wd} (h0:0≤s.p) (h:At ws s (w::K)) (hw:w.1≠0):∃ a,ws.drop s.p.toNat=(w,a)::ws.drop (s.p.toNat+1):=by
 have hd:=h.hd
 by_cases hp:s.p.toNat < ws.length
 ·rw [List.drop_eq_getElem_cons hp]
  rw [show s.p=(s.p.toNat:Int) by omega,wdAt_in hp,List.getD_eq_getElem?_getD,List.getElem?_eq_getElem hp] at hd
  simp only [Int.toNat_natCast,Option.getD_some] at hd
  refine ⟨ws[s.p.toNat].2,?_⟩
  rw [show (w,ws[s.p.toNat].2)=ws[s.p.toNat] from Prod.ext hd.symm rfl]
 ·rw [wdAt_out (by omega)] at hd
  subst hd;exact absurd rfl hw
theorem pathL_end1 {s:St} {w:Wd} {R:List Wd} (h0:0≤s.p) (h:At ws s (w::R)) (hw:wIs w cK=false):pathL (ws.drop s.p.toNat)=([],0):=by
 have hd:=h.hd
 by_cases hp:s.p.toNat < ws.length
 ·rw [show s.p=(s.p.toNat:Int) by omega,wdAt_in hp,List.getD_eq_getElem?_getD,List.getElem?_eq_getElem hp] at hd
  rw [List.drop_eq_getElem_cons hp]
  simp only [Int.toNat_natCast,Option.getD_some] at hd
  generalize ws[s.p.toNat]=a at *
  cases ws.drop (s.p.toNat+1) with
  | nil=>rfl
  | cons b r=>
   rw [pathL]
   have e:isM a [58,58]=false:=by unfold isM;rw [hd];exact hw
   rw [e,Bool.false_and,if_neg (by decide)]
 ·rw [List.drop_eq_nil_of_le (by omega)];rfl
theorem pathL_end2 {s:St} {id:Str} {n:Int} {R:List Wd} (h0:0≤s.p) (h:At ws s (mk cK::(3,id,n)::R)):pathL (ws.drop s.p.toNat)=([],0):=by
 obtain ⟨a,e1⟩:=in_at h0 h (by decide)
 have hp:(adv s).p.toNat=s.p.toNat+1:=by show (s.p+1).toNat=_;omega
 obtain ⟨b,e2⟩:=in_at (s:=adv s) (by show 0≤s.p+1;omega) h.adv (by simp)
 rw [e1,← hp,e2,pathL,if_neg (by simp)]
theorem pathL_more {s:St} {t:Str} {R:List Wd} (h0:0≤s.p) (h:At ws s (mk cK::nm t::R)):pathL (ws.drop s.p.toNat)=(cK++(t++(pathL (ws.drop (s.p.toNat+2))).1),(pathL (ws.drop (s.p.toNat+2))).2+2):=by
 obtain ⟨a,e1⟩:=in_at h0 h (by decide)
 have hp:(adv s).p.toNat=s.p.toNat+1:=by show (s.p+1).toNat=_;omega
 obtain ⟨b,e2⟩:=in_at (s:=adv s) (by show 0≤s.p+1;omega) h.adv (by simp)
 rw [e1,← hp,e2,pathL,if_pos (by rfl),hp]
theorem path_go {ty:Str} {ks:List Wd} (hk:PathK ty ks):∀ (s:St) (R:List Wd),0≤s.p→At ws s (ks++R)→pathL (ws.drop (mvn s ks.length).p.toNat)=([],0)→∃ t K,ks=nm t::K∧t++(pathL (ws.drop (s.p.toNat+1))).1=ty∧(pathL (ws.drop (s.p.toNat+1))).2=K.length:=by
 induction hk with
 | @one t ht=>
  intro s R h0 h hE
  rw [show (mvn s [nm t].length).p.toNat=s.p.toNat+1 by show (s.p+(1:Nat)).toNat=_;omega] at hE
  exact ⟨t,[],rfl,by rw [hE,List.append_nil],by rw [hE];rfl⟩
 | @more t u ks ht hk ih=>
  intro s R h0 h hE
  have a1:At ws s (nm t::mk cK::(ks++R)):=h
  have a2:=a1.adv
  have hp:(adv s).p.toNat=s.p.toNat+1:=by show (s.p+1).toNat=_;omega
  have hp2:(mvn s 2).p.toNat=s.p.toNat+2:=by show (s.p+(2:Nat)).toNat=_;omega
  have a3:At ws (mvn s 2) (ks++R):=by rw [show mvn s 2=adv (adv s) by rw [adv_mvn,adv_mvn,mvn_mvn]];exact a2.adv
  obtain ⟨t2,K2,e,i1,i2⟩:=ih (mvn s 2) R (by show 0≤s.p+(2:Nat);omega) a3 (by rw [mvn_mvn,show 2+ks.length=(nm t::mk cK::ks).length by simp;omega];exact hE)
  subst e
  have hm:=pathL_more (s:=adv s) (by show 0≤s.p+1;omega) a2
  rw [hp] at hm
  rw [hp2] at i1 i2
  refine ⟨t,_,rfl,?_,?_⟩
  ·rw [hm];dsimp only;rw [i1];rfl
  ·rw [hm];dsimp only;rw [i2];rfl
theorem path_read {ty:Str} {ks R:List Wd} {s:St} (hk:TyK ty ks) (h0:0≤s.p) (h:At ws s (ks++R)) (hE:pathL (ws.drop (mvn s ks.length).p.toNat)=([],0)):pathS ws s=(ty,mvn s ks.length):=by
 obtain ⟨hk,t0,K0,e0,ho⟩:=hk
 obtain ⟨t,K,e1,i1,i2⟩:=path_go hk s R h0 h hE
 subst e0
 simp only [List.cons.injEq,Prod.mk.injEq,and_true,true_and] at e1
 obtain ⟨rfl,rfl⟩:=e1
 have a1:At ws s (nm t0::(K0++R)):=h
 unfold pathS pathT
 rw [a1.wtx,if_neg ho,a1.take (k':=1) rfl]
 dsimp only
 rw [if_pos (show (adv s).e=0 from h.1),show (adv s).p.toNat=s.p.toNat+1 by show (s.p+1).toNat=_;omega,i1,i2]
 refine Prod.ext rfl ?_
 unfold mvn adv
 show (⟨s.p+1+(K0.length:Int),_,_,_⟩:St)=_
 rw [List.length_cons]
 congr 1;omega
theorem name_ref {ty id:Str} {ks R:List Wd} {s:St} (hk:TyK ty ks) (h0:0≤s.p) (h:At ws s (ks++mk cK::(3,id,0)::R)):nameG ws s=(litX ⟨4,false,0,[],ty,id⟩,mvn s (ks.length+2)):=by
 have aE:At ws (mvn s ks.length) (mk cK::(3,id,0)::R):=h.dropN
 have hr:=path_read hk h0 h (pathL_end2 (by show 0≤s.p+(ks.length:Int);omega) aE)
 have hu:uidS ws s=((ty,id),mvn s (ks.length+2)):=by
  unfold uidS
  rw [hr]
  dsimp only
  rw [aE.must (.inl rfl),aE.adv.take (k':=3) rfl,adv_mvn,adv_mvn,mvn_mvn,mvn_mvn]
 obtain ⟨hk,t,K,rfl,ho⟩:=hk
 have h2:(wdAt ws (s.p+1)).1=mk cK:=by
  cases hk with
  | one _=>exact At.wd1 (K:=(3,id,0)::R) h
  | @more _ u ks _ _=>exact At.wd1 (K:=ks++mk cK::(3,id,0)::R) h
 have a1:At ws s (nm t::(K++mk cK::(3,id,0)::R)):=h
 unfold nameG
 rw [a1.wtx,if_neg (fun e=>ho (by simp [ownL];rcases e with e | e <;> simp [show t=_ from e])),h2,if_pos ⟨rfl,rfl⟩,hu]
theorem rel_two {s s1 s2:St} {a b:Ex'} {B:Int} {op:Int} {w:Wd} {R:List Wd} (he:s.e=0) (h1:Pr ws (.lev 2) s a s1 B) (h:At ws s1 (w::R)) (hw:(w=mk [61,61]∧op=8)∨(w=mk [60]∧op=9)∨(w=mk [60,61]∧op=10)∨(w=nm [105,110]∧op=15)) (h2:Pr ws (.lev 2) (adv s1) b s2 B):Pr ws .rel s (twoX op a b) s2 B:=.step he fun n y hy=>by
 simp only [stepG,relG] at hy
 refine Pr.bind hy h1 (fun z e h=>?_) (fun h3=>?_)
 ·have k:∀ t,isS ws z.2 t=false:=fun t=>isS_err (by rw [e];decide)
  simp only [k,Bool.false_eq_true,if_false,Option.some.injEq] at h
  subst h;exact e
 ·dsimp only at h3
  have e:(G ws n (.lev 2) (adv s1)).map (fun b=>(twoX op a b.1,b.2))=some y:=by
   simp only [h.wis] at h3
   rcases hw with ⟨rfl,rfl⟩ | ⟨rfl,rfl⟩ | ⟨rfl,rfl⟩ | ⟨rfl,rfl⟩ <;> exact h3
  exact Pr.map e h2 (fun z e=>e) rfl
theorem rel_has {s s1:St} {a:Ex'} {B:Int} {t:Str} {R:List Wd} (he:s.e=0) (h1:Pr ws (.lev 2) s a s1 B) (h:At ws s1 (nm [104,97,115]::nm t::R)):Pr ws .rel s (oneX' 17 t a) (mvn s1 2) B:=.step he fun n y hy=>by
 simp only [stepG,relG] at hy
 refine Pr.bind hy h1 (fun z e h=>?_) (fun h3=>?_)
 ·have k:∀ t,isS ws z.2 t=false:=fun t=>isS_err (by rw [e];decide)
  simp only [k,Bool.false_eq_true,if_false,Option.some.injEq] at h
  subst h;exact e
 ·dsimp only at h3
  simp only [h.wis] at h3
  have e:some (oneX' 17 (takeS ws (adv s1) 1).1 a,(takeS ws (adv s1) 1).2)=some y:=h3
  rw [h.adv.take (k':=1) rfl,adv_mvn,adv_mvn,mvn_mvn] at e
  exact .inl (Option.some.inj e).symm
theorem rel_is {s s1:St} {a:Ex'} {B:Int} {ty:Str} {ks R:List Wd} {w:Wd} (hk:TyK ty ks) (h0:0≤s1.p) (he:s.e=0) (h1:Pr ws (.lev 2) s a s1 B) (h:At ws s1 (nm [105,115]::(ks++w::R))) (hw:wIs w cK=false):Pr ws .rel s (oneX' 16 ty a) (mvn s1 (ks.length+1)) B:=.step he fun n y hy=>by
 simp only [stepG,relG] at hy
 refine Pr.bind hy h1 (fun z e h=>?_) (fun h3=>?_)
 ·have k:∀ t,isS ws z.2 t=false:=fun t=>isS_err (by rw [e];decide)
  simp only [k,Bool.false_eq_true,if_false,Option.some.injEq] at h
  subst h;exact e
 ·dsimp only at h3
  simp only [h.wis] at h3
  have e:some (oneX' 16 (pathS ws (adv s1)).1 a,(pathS ws (adv s1)).2)=some y:=h3
  have a2:=h.adv
  rw [path_read hk (by show 0≤s1.p+1;omega) a2 (pathL_end1 (by show 0≤s1.p+1+(ks.length:Int);omega) a2.dropN hw),adv_mvn,mvn_mvn,Nat.add_comm 1] at e
  exact .inl (Option.some.inj e).symm
theorem expr_if {s s1 s2 s':St} {a b c:Ex'} {B:Int} {K K1 K2:List Wd} (h0:At ws s (nm [105,102]::K)) (hB:s.deep+1≤B) (h1:Pr ws .expr (inn (adv s)) a s1 B) (a1:At ws s1 (nm [116,104,101,110]::K1)) (h2:Pr ws .expr (adv s1) b s2 B) (a2:At ws s2 (nm [101,108,115,101]::K2)) (h3:Pr ws .expr (adv s2) c (inn s') B):Pr ws .expr s (.mk 7 lv0 [] [a,b,c] []) s' B:=.step h0.1 fun n y hy=>by
 simp only [stepG] at hy
 split at hy
 ·simp only [Option.some.injEq] at hy
  subst hy;exact .inr ⟨fail_deep h0.1,by omega⟩
 ·unfold choiceG at hy
  rw [isIn,h0.wis,if_pos (by decide)] at hy
  obtain ⟨z,g,rfl⟩:=map_some' hy
  have key:z=(.mk 7 lv0 [] [a,b,c] [],inn s')∨(z.2.e=11∧50 < B):=by
   refine Pr.bind g h1 (fun z1 e h=>?_) (fun g1=>?_)
   ·obtain ⟨z2,k2,h⟩:=bind_some h
    obtain ⟨z3,k3,rfl⟩:=map_some' h
    have:=bad_keep k3 (must_keep (bad_keep k2 (must_keep e)))
    exact this
   ·dsimp only at g1
    rw [a1.must (.inr rfl)] at g1
    refine Pr.bind g1 h2 (fun z2 e h=>?_) (fun g2=>?_)
    ·obtain ⟨z3,k3,rfl⟩:=map_some' h
     have:=bad_keep k3 (must_keep e)
     exact this
    ·dsimp only at g2
     rw [a2.must (.inr rfl)] at g2
     exact Pr.map g2 h3 (fun z e=>e) rfl
  rcases key with rfl | ⟨e,hb⟩
  ·exact .inl (by rw [out_inn])
  ·exact .inr ⟨e,hb⟩
end
section
variable {ws:Ws}
theorem rel_lev0 {s s':St} {x:Ex'} {B:Int} {w:Wd} {R:List Wd} (he:s.e=0) (h1:Pr ws .rel s x s' B) (h:At ws s' (w::R)) (hq:noneB zA w=true):Pr ws (.lev 0) s x s' B:=
 lev_up (k:=0) he (lev_up (k:=1) he h1 h.1 (opAt_no 1 h fun t ht=>noneB_of hq (by simp at ht;subst ht;simp))) h.1 (opAt_no 0 h fun t ht=>noneB_of hq (by simp at ht;subst ht;simp))
theorem noneB_l {l r:List Str} {w:Wd} (h:noneB (l++r) w=true):noneB l w=true:=noneB_sub h fun t ht=>List.mem_append_left _ ht
theorem un_lev0 {s s':St} {x:Ex'} {B:Int} {w:Wd} {R:List Wd} (he:s.e=0) (h1:Pr ws .unary s x s' B) (h:At ws s' (w::R)) (hq:noneB zA w=true):Pr ws (.lev 0) s x s' B:=by
 have q1:noneB z1 w=true:=noneB_l hq
 have qR:noneB zR w=true:=noneB_l q1
 exact rel_lev0 he (rel_up he (up2 he h1 h (noneB_l qR)) h qR) h hq
def opW (op:Int) (w:Wd):Prop:=(op=5∧w=mk [124,124])∨(op=4∧w=mk [38,38])∨(op=11∧w=mk [43])∨(op=12∧w=mk [45])∨(op=13∧w=mk [42])∨((w=mk [61,61]∧op=8)∨(w=mk [60]∧op=9)∨(w=mk [60,61]∧op=10)∨(w=nm [105,110]∧op=15))
theorem two_lev0 {s s1 s2:St} {a b:Ex'} {B:Int} {op:Int} {w:Wd} {K R:List Wd} (he:s.e=0) (ha:Pr ws .unary s a s1 B) (h1:At ws s1 (w::K)) (hw:opW op w) (hb:Pr ws .unary (adv s1) b s2 B) (h2:At ws s2 (mk [41]::R)):Pr ws (.lev 0) s (twoX op a b) s2 B:=by
 have q:noneB zA (mk [41])=true:=by decide
 have he1:(adv s1).e=0:=h1.1
 rcases hw with ⟨rfl,rfl⟩ | ⟨rfl,rfl⟩ | ⟨rfl,rfl⟩ | ⟨rfl,rfl⟩ | ⟨rfl,rfl⟩ | hw
 ·refine lev_two (k:=0) (s1:=s1) he ?_ h1.1 (by simp only [opAt];rw [h1.wis];rfl) (by decide) ?_ h2.1 (opAt_no 0 h2 (by decide))
  ·exact lev_up (k:=1) he (rel_up he (up2 he ha h1 (by decide)) h1 (by decide)) h1.1 (opAt_no 1 h1 (by decide))
  ·exact lev_up (k:=1) he1 (rel_up he1 (up2 he1 hb h2 (by decide)) h2 (by decide)) h2.1 (opAt_no 1 h2 (by decide))
 ·refine lev_up (k:=0) he (lev_two (k:=1) (s1:=s1) he ?_ h1.1 (by simp only [opAt];rw [h1.wis];rfl) (by decide) ?_ h2.1 (opAt_no 1 h2 (by decide))) h2.1 (opAt_no 0 h2 (by decide))
  ·exact rel_up he (up2 he ha h1 (by decide)) h1 (by decide)
  ·exact rel_up he1 (up2 he1 hb h2 (by decide)) h2 (by decide)
 ·exact rel_lev0 he (rel_up he (lev_two (k:=2) (s1:=s1) he (up3 he ha h1 (by decide)) h1.1 (by simp only [opAt];rw [h1.wis];rfl) (by decide) (up3 he1 hb h2 (by decide)) h2.1 (opAt_no 2 h2 (by decide))) h2 (by decide)) h2 q
 ·exact rel_lev0 he (rel_up he (lev_two (k:=2) (s1:=s1) he (up3 he ha h1 (by decide)) h1.1 (by simp only [opAt];rw [h1.wis,h1.wis];rfl) (by decide) (up3 he1 hb h2 (by decide)) h2.1 (opAt_no 2 h2 (by decide))) h2 (by decide)) h2 q
 ·exact rel_lev0 he (rel_up he (lev_up (k:=2) he (lev_two (k:=3) (s1:=s1) he ha h1.1 (by simp only [opAt];rw [h1.wis];rfl) (by decide) hb h2.1 (opAt_no 3 h2 (by decide))) h2.1 (opAt_no 2 h2 (by decide))) h2 (by decide)) h2 q
 ·exact rel_lev0 he (rel_two he (up2 he ha h1 (by rcases hw with ⟨rfl,_⟩ | ⟨rfl,_⟩ | ⟨rfl,_⟩ | ⟨rfl,_⟩ <;> decide)) h1 hw (up2 he1 hb h2 (by decide))) h2 q
structure It where
 n:Str
 x:Ex'
 K:List Wd
def hdK (op:Int) (n:Str):List Wd:=if op=20 then [(3,n,0),mk [58]] else []
def moreK (op:Int):List It→List Wd
 | []=>[]
 | i::r=>mk [44]::(hdK op i.n++(i.K++moreK op r))
def nsF (op:Int) (ns:List Str) (l:List It):List Str:=if op=20 then ns++l.map It.n else ns
theorem nsF_cons {op:Int} {ns:List Str} {i:It} {l:List It}:nsF op (nsF op ns [i]) l=nsF op ns (i::l):=by
 unfold nsF
 by_cases h:op=20
 ·rw [if_pos h,if_pos h,if_pos h];simp
 ·rw [if_neg h,if_neg h,if_neg h]
theorem hdS_go {op:Int} {n:Str} {ns:List Str} {s:St} {K:List Wd} (h:At ws s (hdK op n++K)):headS ws op ns s=(nsF op ns [⟨n,nilX,[]⟩],mvn s (hdK op n).length)∧At ws (mvn s (hdK op n).length) K:=by
 refine ⟨?_,h.dropN⟩
 unfold headS nsF hdK at *
 by_cases ho:op=20
 ·rw [if_pos ho] at h
  rw [if_pos ho,if_pos ho,if_pos ho]
  have a1:At ws s ((3,n,0)::mk [58]::K):=h
  have hk:wk ws s=3:=a1.wk
  rw [hk,if_pos rfl,a1.take (k':=3) rfl]
  dsimp only
  rw [a1.adv.must (.inl rfl),adv_mvn,adv_mvn,mvn_mvn]
  rfl
 ·rw [if_neg ho,if_neg ho,if_neg ho]
  refine Prod.ext rfl ?_
  show s=mvn s 0
  unfold mvn
  ext1
  ·show s.p=s.p+((0:Nat):Int);omega
  ·rfl
  ·rfl
  ·rfl
theorem its_go {op:Int} (hop:op=19∨op=20) {B d:Int}:∀ (l:List It) (i:It) (ns:List Str) (ks:List Ex') (s:St) (R:List Wd),(∀ j∈i::l,∀ (s:St) (w:Wd) (R:List Wd),0≤s.p→s.deep=d→At ws s (j.K++w::R)→noneB zA w=true→Pr ws .expr s j.x (mvn s j.K.length) B) →
  0≤s.p→s.deep=d→At ws s (hdK op i.n++(i.K++(moreK op l++mk (endOf op)::R)))→Pr ws (.its op ns ks) s (.mk op lv0 [] (ks++(i::l).map It.x) (nsF op ns (i::l))) (mvn s ((hdK op i.n++(i.K++moreK op l)).length+1)) B
 | l,i,ns,ks,s,R,hI,h0,hd,h=>.step h.1 fun n y hy=>by
  simp only [stepG,itsG] at hy
  obtain ⟨e1,a1⟩:=hdS_go (ns:=ns) h
  rw [e1] at hy
  dsimp only at hy
  have hp1:0≤(mvn s (hdK op i.n).length).p:=by show 0≤s.p+((hdK op i.n).length:Int);omega
  have hq:noneB zA (mk (endOf op))=true:=by rcases hop with rfl | rfl <;> decide
  have nk:∀ z:Ex'×St,z.2.e=11→(if isS ws z.2 (endOf op) then some (Ex'.mk op lv0 [] (ks++[z.1]) (nsF op ns [⟨i.n,nilX,[]⟩]),adv z.2) else G ws n (.its op (nsF op ns [⟨i.n,nilX,[]⟩]) (ks++[z.1])) (mustS ws z.2 [44]))=some y→y.2.e=11:=fun z e h=>by
   rw [isS_err (by rw [e];decide),if_neg (by decide)] at h
   exact bad_keep h (must_keep e)
  cases l with
  | nil=>
   have h1:=hI i List.mem_cons_self _ _ _ hp1 hd a1 hq
   refine Pr.bind hy h1 nk (fun h2=>?_)
   dsimp only at h2
   have a2:At ws (mvn (mvn s (hdK op i.n).length) i.K.length) (mk (endOf op)::R):=a1.dropN
   rw [a2.wis,if_pos (by rcases hop with rfl | rfl <;> decide),adv_mvn,mvn_mvn,mvn_mvn] at h2
   refine .inl ((Option.some.inj h2).symm.trans ?_)
   refine Prod.ext rfl ?_
   show mvn s _=mvn s _
   congr 1
   simp [moreK];omega
  | cons j l=>
   have a1':At ws (mvn s (hdK op i.n).length) (i.K++mk [44]::(hdK op j.n++(j.K++(moreK op l++mk (endOf op)::R)))):=by
    simpa [moreK] using a1
   have h1:=hI i List.mem_cons_self _ _ _ hp1 hd a1' (by decide)
   refine Pr.bind hy h1 nk (fun h2=>?_)
   dsimp only at h2
   have a2:=a1'.dropN
   rw [a2.wis,if_neg (by rcases hop with rfl | rfl <;> decide),a2.must (.inl rfl)] at h2
   have h3:=its_go hop l j (nsF op ns [⟨i.n,nilX,[]⟩]) (ks++[i.x]) (adv (mvn (mvn s (hdK op i.n).length) i.K.length)) R (fun k hk=>hI k (List.mem_cons_of_mem _ hk)) (by show 0≤s.p+((hdK op i.n).length:Int)+(i.K.length:Int)+1;omega) hd a2.adv _ _ h2
   rcases h3 with rfl | h3
   ·refine .inl ?_
    refine Prod.ext ?_ ?_
    ·show Ex'.mk _ _ _ _ _=Ex'.mk _ _ _ _ _
     congr 1
     ·simp
     ·exact nsF_cons (i:=⟨i.n,nilX,[]⟩)
    ·show mvn _ _=mvn _ _
     rw [adv_mvn,mvn_mvn,mvn_mvn,mvn_mvn]
     congr 1
     simp [moreK];omega
   ·exact .inr h3
 termination_by l=>l.length
end
theorem dep_kid {op:Int} {v:LV} {nm:Str} {ks:List Ex'} {ns:List Str} {x:Ex'} (h:x∈ks):depX x+1≤depX (.mk op v nm ks ns):=by
 obtain ⟨i,hi⟩:=List.mem_iff_getElem?.1 h
 rw [depX];have:=depXL_mem hi;omega
theorem dep_pos (x:Ex'):1≤depX x:=by cases x;rw [depX];omega
structure Rd (x:Ex') (K:List Wd):Prop where
 ne:∃ w K',K=w::K'∧wIs w [105,102]=false∧wIs w [93]=false∧wIs w [125]=false
 un:∀ (ws:Ws) (s:St) (w:Wd) (R:List Wd),0≤s.p→At ws s (K++w::R)→noneB z0 w=true→Pr ws .unary s x (mvn s K.length) (s.deep+3 * depX x)
 mb:x.op≠6→x.op≠14→∀ (ws:Ws) (s:St) (w:Wd) (R:List Wd),0≤s.p→At ws s (K++w::R)→noneB zN w=true→Mb ws s x (mvn s K.length) (s.deep+3 * depX x - 1)
theorem Rd.of_mb {x:Ex'} {w0:Wd} {K:List Wd} (h0:noneB [[105,102],[93],[125],[33],[45]] w0=true) (h:∀ (ws:Ws) (s:St) (w:Wd) (R:List Wd),0≤s.p→At ws s (w0::(K++w::R))→noneB zN w=true→Mb ws s x (mvn s (K.length+1)) (s.deep+3 * depX x - 1)):Rd x (w0::K):=by
 refine ⟨⟨w0,K,rfl,noneB_of h0 (by simp),noneB_of h0 (by simp),noneB_of h0 (by simp)⟩,fun ws s w R hp hA hq=>?_,fun _ _ ws s w R hp hA hq=>h ws s w R hp hA hq⟩
 have hd:=dep_pos x
 have hA:At ws s (w0::(K++w::R)):=hA
 have hA2:At ws s ((w0::K)++w::R):=hA
 have hm:=h ws (inn s) w R hp hA (noneB_l hq)
 have hm2:=member_of hm (show At ws (mvn (inn s) (K.length+1)) (w::R) from hA2.dropN) hq
 exact unary_of (s':=mvn s (K.length+1)) hA (noneB_of h0 (by simp)) (noneB_of h0 (by simp)) (by omega) (hm2.mono (by show s.deep+1+3 * (depX x:Int) - 1≤_;omega))
theorem Rd.expr {x:Ex'} {K:List Wd} (h:Rd x K) {ws:Ws} {s:St} {w:Wd} {R:List Wd} (hp:0≤s.p) (hA:At ws s (K++w::R)) (hq:noneB zA w=true):Pr ws .expr s x (mvn s K.length) (s.deep+3 * depX x+1):=by
 have hu:=h.un ws (inn s) w R hp hA.inn (noneB_l (noneB_l (noneB_l (noneB_l (noneB_l hq)))))
 obtain ⟨w0,K',rfl,h1,-,-⟩:=h.ne
 have hd:=dep_pos x
 have hA0:At ws s (w0::(K'++w::R)):=hA
 exact expr_of hA0 h1 (by omega) ((un_lev0 (s:=inn s) (s':=inn (mvn s (w0::K').length)) hA.1 (hu.mono (by show s.deep+1+3 * (depX x:Int)≤_;omega)) (by have:=hA.dropN;exact this) hq))
def ownK (x:Ex') (K:List Wd):List Wd:=if x.op=6∨x.op=14 then mk [40]::(K++[mk [41]]) else K
theorem par_mb {ws:Ws} {s:St} {x:Ex'} {B:Int} {K R:List Wd} (hA:At ws s (mk [40]::(K++mk [41]::R))) (h:Pr ws .expr (adv s) x (mvn (adv s) K.length) B):Mb ws s x (mvn s (K.length+2)) B:=by
 have a2:At ws (mvn (adv s) K.length) (mk [41]::R):=hA.adv.dropN
 have:=mb_prim hA.1 (prim_par hA h a2)
 rw [adv_mvn,adv_mvn,mvn_mvn,mvn_mvn,show 1+(K.length+1)=K.length+2 by omega] at this
 exact this
theorem Rd.own {x:Ex'} {K:List Wd} (h:Rd x K) {ws:Ws} {s:St} {w:Wd} {R:List Wd} (hp:0≤s.p) (hA:At ws s (ownK x K++w::R)) (hq:noneB zN w=true):Mb ws s x (mvn s (ownK x K).length) (s.deep+3 * depX x+1):=by
 unfold ownK at *
 by_cases ho:x.op=6∨x.op=14
 ·rw [if_pos ho] at hA ⊢
  have hA1:At ws s (Go.Proofs.YtoelfmmfjebabaaGreatDoor.mk [40]::(K++Go.Proofs.YtoelfmmfjebabaaGreatDoor.mk [41]::w::R)):=by simpa using hA
  have he:=h.expr (s:=adv s) (by show 0≤s.p+1;omega) hA1.adv (by decide)
  have:=par_mb hA1 he
  rw [show (Go.Proofs.YtoelfmmfjebabaaGreatDoor.mk [40]::(K++[Go.Proofs.YtoelfmmfjebabaaGreatDoor.mk [41]])).length=K.length+2 by simp]
  exact this
 ·rw [if_neg ho] at hA ⊢
  exact (h.mb (fun e=>ho (.inl e)) (fun e=>ho (.inr e)) ws s w R hp hA hq).mono (by omega)
theorem ownK_ne {x:Ex'} {K:List Wd} (h:Rd x K) (hm:x.op≠6→x.op≠14→∃ w K',K=w::K'∧noneB [[105,102],[93],[125],[33],[45]] w=true):∃ w K',ownK x K=w::K'∧noneB [[105,102],[93],[125],[33],[45]] w=true:=by
 unfold ownK
 by_cases ho:x.op=6∨x.op=14
 ·rw [if_pos ho];exact ⟨_,_,rfl,by decide⟩
 ·rw [if_neg ho];exact hm (fun e=>ho (.inl e)) (fun e=>ho (.inr e))
theorem rd_num (t:Str) (n:Int):Rd (litX ⟨2,false,n,[],[],[]⟩) [(2,t,n)]:=.of_mb (K:=[]) (by simp [noneB,wIs]) fun ws s w R hp hA hq=>mb_prim hA.1 (prim_num hA _)
theorem rd_txt (t:Str):Rd (litX ⟨3,false,0,t,[],[]⟩) [(3,t,0)]:=.of_mb (K:=[]) (by simp [noneB,wIs]) fun ws s w R hp hA hq=>mb_prim hA.1 (prim_txt hA _)
theorem rd_slot {t:Str} (ht:t∈slotL):Rd (.mk 3 lv0 t [] []) [(4,t,0)]:=.of_mb (K:=[]) (by simp [noneB,wIs]) fun ws s w R hp hA hq=>mb_prim hA.1 (prim_slot hA ht _)
theorem rd_bool (b:Bool):Rd (litX ⟨1,b,0,[],[],[]⟩) [nm (if b then [116,114,117,101] else [102,97,108,115,101])]:=.of_mb (K:=[]) (by cases b <;> decide) fun ws s w R hp hA hq=>by
 have:=prim_name hA (s.deep+3 * depX (litX ⟨1,b,0,[],[],[]⟩) - 1)
 rw [name_bool b hA] at this
 exact mb_prim hA.1 this
theorem rd_var {t:Str} (ht:t∈varL):Rd (.mk 2 lv0 t [] []) [nm t]:=.of_mb (K:=[]) (by simp [varL] at ht;rcases ht with rfl | rfl | rfl | rfl <;> decide) fun ws s w R hp hA hq=>by
 have:=prim_name hA (s.deep+3 * depX (.mk 2 lv0 t [] []) - 1)
 rw [name_var hA ht (noneB_of hq (by simp))] at this
 exact mb_prim hA.1 this
theorem name_no {t:Str} (h:nameB t=true):noneB [[93],[125],[33],[45]] (nm t)=true:=by
 rw [noneB,List.all_eq_true]
 intro u hu
 have:(t==u)=false:=by
  rw [beq_eq_false_iff_ne]
  rintro rfl
  simp at hu
  rcases hu with rfl | rfl | rfl | rfl <;> revert h <;> decide
 simp [wIs,this]
theorem rd_ref {ty id:Str} {ks:List Wd} (hk:TyK ty ks):Rd (litX ⟨4,false,0,[],ty,id⟩) (ks++[mk cK,(3,id,0)]):=by
 have hk':=hk
 obtain ⟨hk1,t,K,rfl,ho⟩:=hk'
 have hn:nameB t=true:=by cases hk1 <;> assumption
 have hif:wIs (nm t) [105,102]=false:=by
  unfold wIs
  rw [Bool.and_eq_false_iff]
  refine .inr ?_
  rw [beq_eq_false_iff_ne]
  rintro e
  exact ho (by rw [show t=[105,102] from e];simp [ownL])
 refine .of_mb (w0:=nm t) (K:=K++[mk cK,(3,id,0)]) ?_ fun ws s w R hp hA hq=>?_
 ·have:=name_no hn
  simp only [noneB,List.all_cons,List.all_nil,Bool.and_true,hif,Bool.not_false,Bool.true_and] at this ⊢
  exact this
 ·have hA1:At ws s (nm t::((K++[mk cK,(3,id,0)])++w::R)):=hA
  have hA2:At ws s ((nm t::K)++mk cK::(3,id,0)::(w::R)):=by simpa using hA
  have:=prim_name hA1 (s.deep+3 * depX (litX ⟨4,false,0,[],ty,id⟩) - 1)
  rw [name_ref hk hp hA2] at this
  have:=mb_prim hA.1 this
  rw [show (K++[mk cK,(3,id,0)]).length+1=(nm t::K).length+2 by simp]
  exact this
theorem rd_two {op:Int} {a b:Ex'} {Ka Kb:List Wd} {o:Wd} (ha:Rd a Ka) (hb:Rd b Kb) (ho:opW op o):Rd (twoX op a b) (mk [40]::(Ka++o::(Kb++[mk [41]]))):=.of_mb (by decide) fun ws s w R hp hA hq=>by
 have da:depX a+1≤depX (twoX op a b):=dep_kid (by simp)
 have db:depX b+1≤depX (twoX op a b):=dep_kid (by simp)
 have hda:=dep_pos a
 have hA0:At ws s (mk [40]::((Ka++o::Kb)++mk [41]::(w::R))):=by simpa using hA
 have hA1:At ws (adv s) (Ka++o::(Kb++mk [41]::(w::R))):=by have:=hA0.adv;simpa using this
 have hz:noneB z0 o=true:=by rcases ho with ⟨_,rfl⟩ | ⟨_,rfl⟩ | ⟨_,rfl⟩ | ⟨_,rfl⟩ | ⟨_,rfl⟩ | (⟨rfl,_⟩ | ⟨rfl,_⟩ | ⟨rfl,_⟩ | ⟨rfl,_⟩) <;> decide
 have p1:0≤(adv s).p:=by show 0≤s.p+1;omega
 have hu:=ha.un ws (inn (adv s)) o _ p1 hA1.inn hz
 have hA2:At ws (mvn (inn (adv s)) Ka.length) (o::(Kb++mk [41]::(w::R))):=hA1.dropN
 have p2:0≤(adv (mvn (inn (adv s)) Ka.length)).p:=by show 0≤s.p+1+(Ka.length:Int)+1;omega
 have hv:=hb.un ws (adv (mvn (inn (adv s)) Ka.length)) (mk [41]) _ p2 hA2.adv (by decide)
 have hA3:At ws (mvn (adv (mvn (inn (adv s)) Ka.length)) Kb.length) (mk [41]::(w::R)):=hA2.adv.dropN
 have hB1:(inn (adv s)).deep=s.deep+1:=rfl
 have hB2:(adv (mvn (inn (adv s)) Ka.length)).deep=s.deep+1:=rfl
 rw [hB1] at hu
 rw [hB2] at hv
 have hl:=two_lev0 (s:=inn (adv s)) hA1.1 (hu.mono (B':=s.deep+3 * depX (twoX op a b) - 1) (by omega)) hA2 ho (hv.mono (B':=s.deep+3 * depX (twoX op a b) - 1) (by omega)) hA3
 obtain ⟨wa,Ka',e,hif,-,-⟩:=ha.ne
 have he:Pr ws .expr (adv s) (twoX op a b) (mvn (adv s) (Ka++o::Kb).length) (s.deep+3 * depX (twoX op a b) - 1):=by
  refine expr_of (w:=wa) (K:=Ka'++o::(Kb++mk [41]::(w::R))) (by rw [← List.cons_append,← e];exact hA1) hif (by show s.deep+1≤_;omega) ?_
  rw [show inn (mvn (adv s) (Ka++o::Kb).length)=mvn (adv (mvn (inn (adv s)) Ka.length)) Kb.length by rw [inn_mvn,adv_mvn (mvn (inn (adv s)) Ka.length),mvn_mvn,mvn_mvn];congr 1;simp;omega]
  exact hl
 have:=par_mb hA0 he
 rw [show (Ka++o::(Kb++[mk [41]])).length+1=(Ka++o::Kb).length+2 by simp;omega]
 exact this
theorem rd_pre {op:Int} {c:UInt8} {a:Ex'} {K:List Wd} (h:Rd a K) (hc:(c=33∧op=6)∨(c=45∧op=14)):Rd (oneX' op [] a) (mk [c]::K):=by
 have ho:op=6∨op=14:=by rcases hc with ⟨_,h⟩ | ⟨_,h⟩ <;> simp [h]
 refine ⟨⟨_,_,rfl,?_⟩,fun ws s w R hp hA hq=>?_,fun h6 h14=>?_⟩
 ·rcases hc with ⟨rfl,_⟩ | ⟨rfl,_⟩ <;> decide
 ·have da:depX a+1≤depX (oneX' op [] a):=dep_kid (by simp)
  have hA:At ws s (mk [c]::(K++w::R)):=hA
  have hu:=h.un ws (inn (adv s)) w R (by show 0≤s.p+1;omega) hA.adv hq
  have:=unary_pre (s':=mvn (adv s) K.length) hc hA (B:=s.deep+3 * depX (oneX' op [] a)) (by omega) (hu.mono (by show s.deep+1+3 * (depX a:Int)≤_;omega))
  rw [adv_mvn,mvn_mvn,Nat.add_comm] at this
  exact this
 ·rcases ho with rfl | rfl
  ·exact absurd rfl h6
  ·exact absurd rfl h14
theorem rd_par {x:Ex'} {K:List Wd} (h:∀ (ws:Ws) (s:St) (R:List Wd),0≤s.p→At ws s (K++mk [41]::R)→Pr ws .expr s x (mvn s K.length) (s.deep+3 * depX x - 1)):Rd x (mk [40]::(K++[mk [41]])):=.of_mb (by decide) fun ws s w R hp hA hq=>by
 have hA0:At ws s (mk [40]::(K++mk [41]::(w::R))):=by simpa using hA
 have:=par_mb hA0 (h ws (adv s) (w::R) (by show 0≤s.p+1;omega) hA0.adv)
 rw [show (K++[mk [41]]).length+1=K.length+2 by simp]
 exact this
theorem rd_if {a b c:Ex'} {Ka Kb Kc:List Wd} (ha:Rd a Ka) (hb:Rd b Kb) (hc:Rd c Kc):Rd (.mk 7 lv0 [] [a,b,c] []) (mk [40]::((nm [105,102]::(Ka++nm [116,104,101,110]::(Kb++nm [101,108,115,101]::Kc)))++[mk [41]])):=rd_par fun ws s R hp hA=>by
 have da:depX a+1≤depX (.mk 7 lv0 [] [a,b,c] []):=dep_kid (by simp)
 have db:depX b+1≤depX (.mk 7 lv0 [] [a,b,c] []):=dep_kid (by simp)
 have dc:depX c+1≤depX (.mk 7 lv0 [] [a,b,c] []):=dep_kid (by simp)
 have hda:=dep_pos a
 have h0:At ws s (nm [105,102]::(Ka++nm [116,104,101,110]::(Kb++nm [101,108,115,101]::(Kc++mk [41]::R)))):=by simpa using hA
 have h1:=h0.adv
 have p1:0≤(inn (adv s)).p:=by show 0≤s.p+1;omega
 have e1:=ha.expr (s:=inn (adv s)) p1 h1.inn (by decide)
 have h2:At ws (mvn (inn (adv s)) Ka.length) _:=h1.inn.dropN
 have p2:0≤(adv (mvn (inn (adv s)) Ka.length)).p:=by show 0≤s.p+1+(Ka.length:Int)+1;omega
 have e2:=hb.expr (s:=adv (mvn (inn (adv s)) Ka.length)) p2 h2.adv (by decide)
 have h3:=h2.adv.dropN
 have p3:0≤(adv (mvn (adv (mvn (inn (adv s)) Ka.length)) Kb.length)).p:=by show 0≤s.p+1+(Ka.length:Int)+1+(Kb.length:Int)+1;omega
 have e3:=hc.expr (s:=adv (mvn (adv (mvn (inn (adv s)) Ka.length)) Kb.length)) p3 h3.adv (by decide)
 have d1:(inn (adv s)).deep=s.deep+1:=rfl
 have d2:(adv (mvn (inn (adv s)) Ka.length)).deep=s.deep+1:=rfl
 have d3:(adv (mvn (adv (mvn (inn (adv s)) Ka.length)) Kb.length)).deep=s.deep+1:=rfl
 rw [d1] at e1
 rw [d2] at e2
 rw [d3] at e3
 refine expr_if (s1:=mvn (inn (adv s)) Ka.length) (s2:=mvn (adv (mvn (inn (adv s)) Ka.length)) Kb.length) h0 (by omega) (e1.mono (by omega)) h2 (e2.mono (by omega)) h3 ?_
 rw [show inn (mvn s (nm [105,102]::(Ka++nm [116,104,101,110]::(Kb++nm [101,108,115,101]::Kc))).length)=mvn (adv (mvn (adv (mvn (inn (adv s)) Ka.length)) Kb.length)) Kc.length by
  simp only [inn_mvn,adv_mvn,mvn_mvn];congr 1;simp;omega]
 exact e3.mono (by omega)
theorem rel_expr {ws:Ws} {s:St} {x:Ex'} {k:Nat} {B:Int} {w0:Wd} {K R:List Wd} (h0:At ws s (w0::K)) (hif:wIs w0 [105,102]=false) (hB:s.deep+1≤B) (h1:Pr ws .rel (inn s) x (mvn (inn s) k) B) (h2:At ws (mvn s k) (mk [41]::R)):Pr ws .expr s x (mvn s k) B:=
 expr_of h0 hif hB (rel_lev0 h0.1 h1 h2.inn (by decide))
theorem rd_has {a:Ex'} {Ka:List Wd} {t:Str} (ha:Rd a Ka):Rd (oneX' 17 t a) (mk [40]::((Ka++[nm [104,97,115],nm t])++[mk [41]])):=rd_par fun ws s R hp hA=>by
 have da:depX a+1≤depX (oneX' 17 t a):=dep_kid (by simp)
 have hda:=dep_pos a
 have h0:At ws s (Ka++nm [104,97,115]::nm t::mk [41]::R):=by simpa using hA
 have hu:=ha.un ws (inn s) _ _ hp h0.inn (by decide)
 have h1:At ws (mvn (inn s) Ka.length) (nm [104,97,115]::nm t::mk [41]::R):=h0.inn.dropN
 have hr:=rel_has (s:=inn s) (B:=s.deep+3 * depX (oneX' 17 t a) - 1) hA.1 (up2 hA.1 (hu.mono (by show s.deep+1+3 * (depX a:Int)≤_;omega)) h1 (by decide)) h1
 obtain ⟨wa,Ka',e,hif,-,-⟩:=ha.ne
 rw [mvn_mvn] at hr
 rw [show (Ka++[nm [104,97,115],nm t]).length=Ka.length+2 by simp]
 refine rel_expr (w0:=wa) (K:=Ka'++nm [104,97,115]::nm t::mk [41]::R) (by rw [← List.cons_append,← e];exact h0) hif (by omega) hr (R:=R) ?_
 have:=hA.dropN
 rwa [show (Ka++[nm [104,97,115],nm t]).length=Ka.length+2 by simp] at this
theorem rd_is {a:Ex'} {Ka ks:List Wd} {ty:Str} (ha:Rd a Ka) (hk:TyK ty ks):Rd (oneX' 16 ty a) (mk [40]::((Ka++nm [105,115]::ks)++[mk [41]])):=rd_par fun ws s R hp hA=>by
 have da:depX a+1≤depX (oneX' 16 ty a):=dep_kid (by simp)
 have hda:=dep_pos a
 have h0:At ws s (Ka++nm [105,115]::(ks++mk [41]::R)):=by simpa using hA
 have hu:=ha.un ws (inn s) _ _ hp h0.inn (by decide)
 have h1:At ws (mvn (inn s) Ka.length) (nm [105,115]::(ks++mk [41]::R)):=h0.inn.dropN
 have hr:=rel_is (s:=inn s) (B:=s.deep+3 * depX (oneX' 16 ty a) - 1) hk (by show 0≤s.p+(Ka.length:Int);omega) hA.1 (up2 hA.1 (hu.mono (by show s.deep+1+3 * (depX a:Int)≤_;omega)) h1 (by decide)) h1 (by decide)
 obtain ⟨wa,Ka',e,hif,-,-⟩:=ha.ne
 rw [mvn_mvn] at hr
 rw [show (Ka++nm [105,115]::ks).length=Ka.length+(ks.length+1) by simp]
 refine rel_expr (w0:=wa) (K:=Ka'++nm [105,115]::(ks++mk [41]::R)) (by rw [← List.cons_append,← e];exact h0) hif (by omega) hr (R:=R) ?_
 have:=hA.dropN
 rwa [show (Ka++nm [105,115]::ks).length=Ka.length+(ks.length+1) by simp] at this
structure Rd2 (x:Ex') (K:List Wd):Prop extends Rd x K where
 ft:x.op≠6→x.op≠14→∃ w K',K=w::K'∧noneB [[105,102],[93],[125],[33],[45]] w=true
theorem Rd.own_mb {x y:Ex'} {K K2:List Wd} (h:Rd2 x K) (hd:depX x+1≤depX y) (hm:∀ (ws:Ws) (s:St) (w:Wd) (R:List Wd),0≤s.p→At ws s (ownK x K++(K2++w::R))→noneB zN w=true→(∀ B,s.deep+3 * depX x+1≤B→Mb ws s x (mvn s (ownK x K).length) B)→Mb ws s y (mvn s ((ownK x K).length+K2.length)) (s.deep+3 * depX y - 1)) (hz:∃ w K',K2=w::K'∧noneB zN w=true):Rd y (ownK x K++K2):=by
 obtain ⟨w0,K0,e0,hw0⟩:=ownK_ne h.toRd h.ft
 rw [e0,List.cons_append]
 refine .of_mb hw0 fun ws s w R hp hA hq=>?_
 have hA1:At ws s (ownK x K++(K2++w::R)):=by rw [e0];simpa using hA
 have:=hm ws s w R hp hA1 hq fun B hB=>by
  obtain ⟨w2,K2',e2,hw2⟩:=hz
  have hA2:At ws s (ownK x K++w2::(K2'++w::R)):=by rw [e2] at hA1;simpa using hA1
  exact (h.toRd.own hp hA2 hw2).mono hB
 rw [e0] at this
 rw [show (K0++K2).length+1=(w0::K0).length+K2.length by simp;omega]
 exact this
theorem rd_get {o:Ex'} {K:List Wd} {t:Str} (h:Rd2 o K):Rd (oneX' 18 t o) (ownK o K++[mk [91],(3,t,0),mk [93]]):=by
 have hd:depX o+1≤depX (oneX' 18 t o):=dep_kid (by simp)
 refine Rd.own_mb h hd (fun ws s w R hp hA hq hm=>?_) ⟨_,_,rfl,by decide⟩
 have h1:At ws (mvn s (ownK o K).length) (mk [91]::(3,t,0)::mk [93]::w::R):=hA.dropN
 have:=mb_get (hm (s.deep+3 * depX (oneX' 18 t o) - 1) (by omega)) h1
 rw [mvn_mvn] at this
 exact this
theorem rd_dot {o:Ex'} {K:List Wd} {t:Str} (h:Rd2 o K):Rd (oneX' 18 t o) (ownK o K++[mk [46],nm t]):=by
 have hd:depX o+1≤depX (oneX' 18 t o):=dep_kid (by simp)
 refine Rd.own_mb h hd (fun ws s w R hp hA hq hm=>?_) ⟨_,_,rfl,by decide⟩
 have h1:At ws (mvn s (ownK o K).length) (mk [46]::nm t::w::R):=hA.dropN
 have:=mb_dot (hm (s.deep+3 * depX (oneX' 18 t o) - 1) (by omega)) h1 (noneB_of hq (by simp))
 rw [mvn_mvn] at this
 exact this
theorem rd_meth {op:Int} {o b:Ex'} {Ko Kb:List Wd} {t:Str} (h:Rd2 o Ko) (hb:Rd b Kb) (ht:methI t=op) (hop:op≠0):Rd (twoX op o b) (ownK o Ko++(mk [46]::nm t::mk [40]::(Kb++[mk [41]]))):=by
 have hd:depX o+1≤depX (twoX op o b):=dep_kid (by simp)
 have db:depX b+1≤depX (twoX op o b):=dep_kid (by simp)
 refine Rd.own_mb h hd (fun ws s w R hp hA hq hm=>?_) ⟨_,_,rfl,by decide⟩
 have h1:At ws (mvn s (ownK o Ko).length) (mk [46]::nm t::mk [40]::(Kb++mk [41]::w::R)):=by have:=hA.dropN;simpa using this
 have h2:At ws (mvn (mvn s (ownK o Ko).length) 3) (Kb++mk [41]::w::R):=h1.dropN (K1:=[mk [46],nm t,mk [40]])
 have he:=hb.expr (by show 0≤s.p+((ownK o Ko).length:Int)+(3:Nat);omega) h2 (by decide)
 have hde:(mvn (mvn s (ownK o Ko).length) 3).deep=s.deep:=rfl
 rw [hde] at he
 have:=mb_meth (hm (s.deep+3 * depX (twoX op o b) - 1) (by omega)) h1 ht hop (he.mono (by omega)) h2.dropN
 rw [adv_mvn,mvn_mvn,mvn_mvn,mvn_mvn] at this
 rw [show (ownK o Ko).length+(mk [46]::nm t::mk [40]::(Kb++[mk [41]])).length=(ownK o Ko).length+(3+(Kb.length+1)) by simp;omega]
 exact this
def opnB (op:Int):UInt8:=if op=20 then 123 else 91
def rowK (op:Int):List It→List Wd
 | []=>[]
 | i::l=>hdK op i.n++(i.K++moreK op l)
theorem prim_items {ws:Ws} {op:Int} (hop:op=19∨op=20) {s s':St} {x:Ex'} {B:Int} {K:List Wd} (h:At ws s (mk [opnB op]::K)) (hi:∀ n y,itemsG ws (G ws n) op (adv s)=some y→y=(x,s')∨(y.2.e=11∧50 < B)):Pr ws .prim s x s' B:=.step h.1 fun n y hy=>by
 simp only [stepG,primG] at hy
 have hk:wk ws s=5:=h.wk
 rw [hk,if_neg (by decide),if_neg (by decide),if_neg (by decide),if_neg (by decide),h.wis,h.wis,h.wis] at hy
 rcases hop with rfl | rfl
 ·rw [if_neg (by decide),if_pos (by decide)] at hy;exact hi n y hy
 ·rw [if_neg (by decide),if_neg (by decide),if_pos (by decide)] at hy;exact hi n y hy
theorem rd_items {op:Int} (hop:op=19∨op=20) (l:List It) (h:∀ j∈l,Rd j.x j.K):Rd (.mk op lv0 [] (l.map It.x) (nsF op [] l)) (mk [opnB op]::(rowK op l++[mk (endOf op)])):=by
 refine .of_mb (by rcases hop with rfl | rfl <;> decide) fun ws s w R hp hA hq=>?_
 have hA0:At ws s (mk [opnB op]::(rowK op l++mk (endOf op)::w::R)):=by simpa using hA
 have h1:=hA0.adv
 have hdl:∀ j∈l,depX j.x+1≤depX (.mk op lv0 [] (l.map It.x) (nsF op [] l)):=fun j hj=>dep_kid (List.mem_map_of_mem hj)
 generalize hX:depX (.mk op lv0 [] (l.map It.x) (nsF op [] l))=D at *
 refine mb_prim hA.1 (prim_items hop hA0 fun n y hy=>?_)
 unfold itemsG at hy
 have he:∀ j∈l,∀ (s1:St) (w:Wd) (R:List Wd),0≤s1.p→s1.deep=s.deep→At ws s1 (j.K++w::R)→noneB zA w=true→Pr ws .expr s1 j.x (mvn s1 j.K.length) (s.deep+3 * D - 1):=fun j hj s1 w R hp hd hA hq=>by
  have:=(h j hj).expr hp hA hq
  rw [hd] at this
  have:=hdl j hj
  exact Pr.mono ‹_› (by omega)
 cases l with
 | nil=>
  have h1:At ws (adv s) (mk (endOf op)::w::R):=h1
  rw [h1.wis,if_pos (by rcases hop with rfl | rfl <;> decide)] at hy
  refine .inl ((Option.some.inj hy).symm.trans ?_)
  refine Prod.ext ?_ ?_
  ·show Ex'.mk _ _ _ _ _=Ex'.mk _ _ _ _ _
   rcases hop with rfl | rfl <;> rfl
  ·show adv (adv s)=mvn s 2
   rw [adv_mvn,adv_mvn,mvn_mvn]
 | cons i l=>
  have hf:∃ w1 K1,rowK op (i::l)=w1::K1∧wIs w1 (endOf op)=false:=by
   obtain ⟨w1,K1,e,-,h93,h125⟩:=(h i List.mem_cons_self).ne
   rcases hop with rfl | rfl
   ·exact ⟨w1,K1++moreK 19 l,by show []++(i.K++moreK 19 l)=_;rw [e];rfl,h93⟩
   ·exact ⟨(3,i.n,0),_,rfl,rfl⟩
  obtain ⟨w1,K1,e,hw1⟩:=hf
  have h1':At ws (adv s) (w1::(K1++mk (endOf op)::w::R)):=by rw [e] at h1;exact h1
  rw [h1'.wis,hw1,if_neg (by decide)] at hy
  have h2:At ws (adv s) (hdK op i.n++(i.K++(moreK op l++mk (endOf op)::w::R))):=by simpa [rowK] using h1
  have:=its_go hop l i [] [] (adv s) (w::R) he (by show 0≤s.p+1;omega) rfl h2 n y hy
  rw [adv_mvn,mvn_mvn] at this
  rw [show (rowK op (i::l)++[mk (endOf op)]).length+1=1+((hdK op i.n++(i.K++moreK op l)).length+1) by simp [rowK];omega]
  exact this
theorem isD_digs:∀ (k n:Nat),n≤k→(digs n).all isD=true∧nval (digs n)=n∧(digs n≠[])∧(10≤n→1 < (digs n).length)∧((digs n).getD 0 0=48→n=0)∧(digs n).head?≠some 45:=by
 have hd:∀ d,d < 10→isD (UInt8.ofNat (48+d))=true∧(UInt8.ofNat (48+d)).toNat=48+d:=by
  intro d h
  refine ⟨?_,by simp;omega⟩
  unfold isD;simp;omega
 intro k
 induction k with
 | zero=>
  intro n hn
  have:n=0:=by omega
  subst this
  rw [digs_lt (by omega)];decide
 | succ k ih=>
  intro n hn
  by_cases h10:n < 10
  ·rw [digs_lt h10]
   have this:=hd n h10
   revert this
   generalize UInt8.ofNat (48+n)=c
   intro this
   refine ⟨by simp [this.1],by unfold nval nvalFrom;simp only [List.foldl_cons,List.foldl_nil,this.2];omega,by simp,by omega,fun h=>?_,fun h=>?_⟩
   ·have h':c=48:=h
    rw [h'] at this
    have:=this.2
    simp at this;omega
   ·have h':c=45:=by simpa using h
    rw [h'] at this
    have:=this.2
    simp at this;omega
  ·obtain ⟨i1,i2,i3,i4,i5,i6⟩:=ih (n / 10) (by omega)
   have this:=hd (n % 10) (by omega)
   rw [digs_ge h10]
   revert this
   generalize UInt8.ofNat (48+n % 10)=c
   intro this
   refine ⟨by simp [i1,this.1],?_,by simp,?_,?_,?_⟩
   ·unfold nval at i2 ⊢;rw [nvalFrom_app,i2,this.2];omega
   ·intro _
    rw [List.length_append]
    have:0 < (digs (n / 10)).length:=List.length_pos_iff.mpr i3
    simp;omega
   ·intro h
    have:(digs (n / 10)).getD 0 0=48:=by
     cases hx:digs (n / 10) with
     | nil=>exact absurd hx i3
     | cons c r=>rw [hx] at h;exact h
    have:=i5 this
    omega
   ·intro h
    apply i6
    cases hx:digs (n / 10) with
    | nil=>exact absurd hx i3
    | cons c r=>rw [hx] at h;exact h
theorem shows_num {n:Int} (h0:0≤n) (h1:n≤9223372036854775807):shows n≠[]∧(shows n).all isD=true∧readD false (shows n)=(n,0):=by
 unfold shows
 rw [if_neg (by omega)]
 obtain ⟨i1,i2,i3,i4,i5,i6⟩:=isD_digs _ n.toNat (Nat.le_refl _)
 refine ⟨i3,i1,?_⟩
 unfold readD
 rw [if_neg,i2]
 ·unfold fitR;rw [if_pos (by simp only [Bool.false_eq_true,reduceIte];omega)];simp only [Bool.false_eq_true,reduceIte];congr 1;omega
 ·rintro (h1 | h1 | h1)
  ·exact i3 h1
  ·have h0:=i5 h1.1
   rw [h0,digs_lt (by omega)] at h1
   simp at h1
  ·rw [i1] at h1;cases h1
abbrev nLD:UInt8→Bool:=fun c=>!isLD c
theorem Lexs.then {P Q:Str} {kp kq:List Wd} {ok:UInt8→Bool} {c:UInt8} (hP:Lexs P kp nLD) (hQ:Lexs (c::Q) kq ok) (hc:isLD c=false):Lexs (P++c::Q) (kp++kq) ok:=hP.app hQ (by simp) fun d r e=>by injection e with e1 _;subst e1;simp [hc]
def lone (c:UInt8):Bool:=onesR.contains c&&!(twosL.any fun m=>m.getD 0 0==c)
theorem lone_of {c:UInt8} (h:lone c=true) (d:UInt8):twosL.contains [c,d]=false:=by
 unfold lone at h
 rw [Bool.and_eq_true,Bool.not_eq_true',List.any_eq_false] at h
 cases hc:twosL.contains [c,d] with
 | false=>rfl
 | true=>
  have:=h.2 [c,d] (List.contains_iff_mem.1 hc)
  simp at this
theorem Lexs.one {c:UInt8} {Q:Str} {kq:List Wd} {ok:UInt8→Bool} (hc:lone c=true) (hQ:Lexs Q kq ok):Lexs (c::Q) (mk [c]::kq) ok:=by
 have h1:Lexs [c] [mk [c]] any8:=(Lexs.mark1 (by unfold lone at hc;rw [Bool.and_eq_true] at hc;exact hc.1)).mono fun d _=>by rw [lone_of hc];rfl
 exact h1.app' hQ
theorem Lexs.sp1 {Q:Str} {kq:List Wd} {ok:UInt8→Bool} (hQ:Lexs Q kq ok):Lexs (32::Q) kq ok:=(Lexs.sp (A:=[32]) (by decide)).app' hQ
theorem Lexs.end1 {c:UInt8} (hc:lone c=true):Lexs [c] [mk [c]] any8:=Lexs.one hc Lexs.nil
theorem Lexs.word {u:Str} (hu:nameB u=true) {Q:Str} {kq:List Wd} {ok:UInt8→Bool} {c:UInt8} (hQ:Lexs (c::Q) kq ok) (hc:isLD c=false):Lexs (u++c::Q) (nm u::kq) ok:=(Lexs.name hu).then hQ hc
theorem path_lexs {ty:Str} {ks:List Wd} (h:PathK ty ks):Lexs ty ks nLD:=by
 induction h with
 | one ht=>exact Lexs.name ht
 | @more t u ks ht _ ih=>
  have h2:Lexs ([58,58]++u) (mk cK::ks) nLD:=(Lexs.mark2 (by decide)).app' ih
  exact (Lexs.name ht).then h2 (by decide)
theorem least {p:Nat→Bool} (h:∃ j,p j=true):∃ j,p j=true∧∀ i,i < j→p i=false:=by
 obtain ⟨j,hj⟩:=h
 induction j using Nat.strongRecOn with
 | _ j ih=>
  by_cases hq:∃ i,i < j∧p i=true
  ·obtain ⟨i,h1,h2⟩:=hq
   exact ih i h1 h2
  ·refine ⟨j,hj,fun i hi=>?_⟩
   cases h:p i with
   | false=>rfl
   | true=>exact absurd ⟨i,hi,h⟩ hq
theorem path_ex:∀ (n:Nat) (s:Str),s.length≤n→pathB s=true→∃ t K,PathK s (nm t::K)∧t=s.takeWhile (· != 58):=by
 intro n
 induction n with
 | zero=>
  intro s hs h
  have:s=[]:=List.eq_nil_of_length_eq_zero (by omega)
  subst this
  have e:pathB []=false:=by decide +kernel
  rw [e] at h;cases h
 | succ n ih=>
  intro s hs h
  have nm58:∀ {t:Str},nameB t=true→∀ c∈t,(c != 58)=true:=fun {t} ht c hc=>by
   have k:isLD 58=false:=by decide
   have hl:isL 58=false:=by decide
   cases t with
   | nil=>cases hc
   | cons a r=>
    rw [nameB,Bool.and_eq_true] at ht
    rcases List.mem_cons.1 hc with rfl | hc
    ·by_cases e:c=58
     ·subst e;rw [hl] at ht;cases ht.1
     ·simpa using e
    ·have:=List.all_eq_true.1 ht.2 c hc
     by_cases e:c=58
     ·subst e;rw [k] at this;cases this
     ·simpa using e
  have tw:∀ {t r:Str},nameB t=true→(t++58::r).takeWhile (· != 58)=t:=fun {t r} ht=>by
   rw [List.takeWhile_append_of_pos (nm58 ht),List.takeWhile_cons,if_neg (by decide),List.append_nil]
  by_cases hx:∃ j,Go.Lib.occAt s cc j=true
  ·obtain ⟨j,hj,hn⟩:=least hx
   obtain ⟨l1,c1,c2⟩:=(occ_iff s j).mp hj
   rw [pathB_hit (idx_at hj hn),Bool.and_eq_true] at h
   have es:s=s.take j++58::58::s.drop (j+2):=by
    have e0:s.drop j=58::58::s.drop (j+2):=by
     rw [List.drop_eq_getElem_cons (by omega),List.drop_eq_getElem_cons (i:=j+1) (by omega)]
     rw [List.getD_eq_getElem?_getD,List.getElem?_eq_getElem (by omega)] at c1 c2
     simp only [Option.getD_some] at c1 c2
     rw [c1,c2]
    rw [← e0,List.take_append_drop]
   obtain ⟨t,K,hk,-⟩:=ih (s.drop (j+2)) (by rw [List.length_drop];omega) h.2
   have hm:=PathK.more h.1 hk
   rw [← es] at hm
   have ht:=tw (t:=s.take j) (r:=58::s.drop (j+2)) h.1
   rw [← es] at ht
   exact ⟨s.take j,_,hm,ht.symm⟩
  ·have hn:∀ j,Go.Lib.occAt s cc j=false:=fun j=>by
    cases hc:Go.Lib.occAt s cc j with
    | false=>rfl
    | true=>exact absurd ⟨j,hc⟩ hx
   rw [pathB_miss (idx_no hn)] at h
   refine ⟨s,[],.one h,?_⟩
   have:=List.takeWhile_append_of_pos (l₂:=[]) (nm58 h)
   rw [List.append_nil,List.takeWhile_nil,List.append_nil] at this
   exact this.symm
end Go.Proofs.YtoelfmmfjebabaaGreatDoor
