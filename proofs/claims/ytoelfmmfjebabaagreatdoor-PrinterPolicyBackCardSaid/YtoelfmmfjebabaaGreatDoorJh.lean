/- Joined. -/
import Derived.Test.YtoelfmmfjebabaaGreatDoorJg
import Derived.Test.YtoelfmmfjebabaaGreatDoorEng17
set_option linter.unusedSectionVars false
namespace Go.Proofs.YtoelfmmfjebabaaGreatDoor
open Go Go.Eng
set_option maxHeartbeats 1000000
set_option linter.unusedSimpArgs false
set_option linter.unusedVariables false
set_option maxRecDepth 20000
theorem sum_zero (n:Nat):((List.range n).map fun _=>0).sum=0:=by
 generalize List.range n=L
 induction L with
 | nil=>rfl
 | cons _ _ ih=>simpa using ih
theorem RepX.hd {F:Base} {cs:List Value} {x:Ex'} (h:RepX F cs x):∃ r,cs=.int .i64 x.op::r:=by
 cases h with
 | mk op v u1 u2 nm a1 c1 kids g1 vn names hu hop hk hn hl1 hc1 h1 r1 hN=>exact ⟨_,rfl⟩
def XW (F:Base) (x:Ex') (cs:List Value):Prop:=∀ F':Base,(∀ b o,F b=some o→F' b=some o)→∀ b s bad,s.length+(pt x).length≤100000000000000 →
 Wr F' 17 [.pointer (some ⟨b,0,none⟩),.agg cs.toArray] b s bad (s++pt x) (bad||!okX x) (.tuple #[])
theorem XW.mono {F F':Base} {x:Ex'} {cs:List Value} (h:XW F x cs) (hF:∀ b o,F b=some o→F' b=some o):XW F' x cs:=fun F2 h2=>h F2 fun b o hb=>h2 b o (hF b o hb)
theorem put_svc (F:Base) (b:Nat) (s:Str) (bad:Bool) {v:Value} {l:List Str} (hv:SlS F v l) (hl:s.length+l.flatten.length≤100000000000000) (H0:Hp) (hp:Pst F b s bad H0) (w0:World) (hw0:∀ b o,F b=some o→w0.heap[b]?=some o) :
  svc Tryz.prog (H0.map (·.1)) F w0 fu30.n fu30.c (numb 0 [.pointer (some ⟨b,0,none⟩),v]) H0 (fin F fu30.rv fun _ H'=>Pst F b (s++l.flatten) bad H'):=by
 obtain ⟨a,c,rfl,hc,hl2,hh⟩:=hv
 simp (disch:=first | assumption | exact .symm ‹_› | omega) only [fu30,↓ZD,ZW,simprocAttr]
 refine LoopL.inv (α:=Nat×Hp) (fun x=>x.1≤l.length∧Pst F b (s++(l.take x.1).flatten) bad x.2)
  (fun x=>[(0,some (.pointer (some ⟨b,0,none⟩))),(6,some (.slice a l.length c)),(7,some (.int .i64 l.length)),(8,some (.int .i64 x.1))])
  (fun x=>x.2) (fun x=>l.length - x.1) (0,H0) ⟨Nat.zero_le _,by simpa using hp⟩ (by (simp (disch:=first | assumption | exact .symm ‹_› | omega) only [↓ZD,ZW,simprocAttr];try trivial)) hp.hle ?_
 rintro ⟨i,H⟩ ⟨hi,hpi⟩
 simp only at hi hpi ⊢
 by_cases hlt:i < l.length
 ·have hd:decide ((i:Int) < (l.length:Int))=true:=by simp;omega
  have gx:=getS hlt
  obtain ⟨ba,oa,rfl,hla⟩:=(hh.1 i _ gx).ld1
  simp only [Nat.mul_one] at hla
  have hts:l.take (i+1)=l.take i++[l.getD i []]:=take_snoc gx
  have hle:(l.take (i+1)).flatten.length≤l.flatten.length:=by
   conv=>rhs;rw [← List.take_append_drop (i+1) l,List.flatten_append,List.length_append]
   omega
  rw [hts,List.flatten_append,List.length_append] at hle
  simp only [List.flatten_cons,List.flatten_nil,List.append_nil] at hle
  simp (disch:=first | assumption | exact .symm ‹_› | omega) only [hd,Nat.mul_one,↓ZD,ZW,simprocAttr]
  refine conj.of (by omega) ?_
  simp (disch:=first | assumption | exact .symm ‹_› | omega) only [hd,Int.toNat_natCast,Nat.mul_one,↓hla,↓ZD,ZW,simprocAttr]
  refine CallE.does H [] (pstr_does F b _ (l.getD i []) bad hpi (by simp only [List.length_append];omega)) (fun _ _ h=>by simp [rdObj,h]) (fun e h=>h) (fun e h=>by cases h) (fun e h=>by cases h) ?_
  rintro _ H2 ⟨rfl,hp2⟩ h1 h2 h3
  simp (disch:=first | assumption | exact .symm ‹_› | omega) only [↓ZD,ZW,simprocAttr]
  refine invK.on (i+1,H2) ⟨by show i+1≤_;omega,by rw [hts,List.flatten_append,← List.append_assoc];simpa using hp2⟩ (by show _ - (i+1) < _ - i;omega) ?_ hp2.hle
  simp only [Le_nil,Le_cons]
  simp (disch:=first | assumption | exact .symm ‹_› | omega) only [↓ZD,ZW,simprocAttr]
  rfl
 ·have hd:decide ((i:Int) < (l.length:Int))=false:=by simp;omega
  obtain rfl:i=l.length:=by omega
  rw [List.take_length] at hpi
  simp (disch:=first | assumption | exact .symm ‹_› | omega) only [hd,↓ZD,ZW,simprocAttr]
  exact hpi
theorem put_dfr (F:Base) (b:Nat) (s:Str) (bad:Bool) {v:Value} {l:List Str} (hv:SlS F v l) (hl:s.length+l.flatten.length≤100000000000000) (H0:Hp) (hp:Pst F b s bad H0) :
  DoesD Tryz.prog F 30 #[.pointer (some ⟨b,0,none⟩),v] H0 (fun H'=>Pst F b (s++l.flatten) bad H'):=
 doesD_of_svc mixed Tryz.func30 low30 (Nat.le_of_ble_eq_true rfl) fun w0 hw0=>put_svc F b s bad hv hl H0 hp w0 hw0
theorem put_call_n:callable Tryz.prog 30=true:=by kernel_rfl
theorem CallDG.wr {X:List Nat} {F:Base} {w0:World} {f:Nat} {args:Array Value} {H:Hp} {K:Hp→Prop} {b:Nat} {s1:Str} {bad1:Bool} (Hr H0:Hp) (h:DoesD Tryz.prog (rdObj F Hr) f args H0 (fun H'=>Pst (rdObj F Hr) b s1 bad1 H'))
  (h0:∀ e∈H0,e∈H) (hr:∀ e∈Hr,e∈H) (hd:∀ e'∈Hr,∀ e∈H0,e.1≠e'.1)
  (hk:∀ H',Pst F b s1 bad1 H'→K (Hr++H')):CallDG Tryz.prog X F w0 f args H K:=
 CallDG.frame h (fun _ _ h=>h) h0 hr hd fun H' hp' _ h2 _=>hk H' hp'.down
def sd33:SD:=SD.seq (SD.low (SC.reg [SO.mk (some 3) (S.box 31 (X.t 1)) none Kind.e])) (SD.seq (SD.seq (SD.low (SC.reg [SO.mk (some 4) (S.add 0 (X.t 3)) none Kind.q,SO.mk (some 5) (S.ld 1 false (X.t 4)) none Kind.q,SO.mk (some 6) (S.bin BinOp.eql (X.t 5) (X.c (Value.int IntKind.i64 6))) none Kind.q,SO.mk (some 7) (S.mv (X.t 6)) none Kind.q,SO.mk (some 8) (S.add 0 (X.t 3)) (some 14) Kind.q,SO.mk (some 9) (S.ld 1 false (X.t 8)) (some 14) Kind.q,SO.mk (some 10) (S.bin BinOp.eql (X.t 9) (X.c (Value.int IntKind.i64 14))) (some 14) Kind.q,SO.mk (some 11) (S.pick (X.t 7) (X.c (Value.bool true)) (X.t 10)) none Kind.q])) (SD.cond (X.t 11) (SD.seq (SD.low (SC.reg [SO.mk (some 12) (S.mv (X.t 0)) none Kind.q,SO.mk (some 13) (S.bslice 9 1 [Value.string (bs [])] [(0,1,X.c (Value.string (bs [40])))]) none Kind.e,SO.mk (some 14) (S.call 30 [X.t 12,X.t 13]) none Kind.e])) (SD.dfr [SO.mk (some 15) (S.mv (X.t 0)) none Kind.q,SO.mk (some 16) (S.bslice 9 1 [Value.string (bs [])] [(0,1,X.c (Value.string (bs [41])))]) none Kind.e] (X.c (Value.func (Fn.func 30) (Array.mk []) (Array.mk []))) [X.t 15,X.t 16])) (SD.low SC.skip))) (SD.low (SC.reg [SO.mk (some 17) (S.mv (X.t 0)) none Kind.q,SO.mk (some 18) (S.ld 12 true (X.t 3)) none Kind.q,SO.mk (some 19) (S.call 17 [X.t 17,X.t 18]) none Kind.e])))
theorem bod33:Tryz.f33.body=some (Tryz.f33.body.getD .skip):=by kernel_rfl
theorem lowd33:lowD Tryz.prog Tryz.f33.ntmps [] (Tryz.f33.body.getD .skip)=some sd33:=by kernel_rfl
theorem rvd33:lowR Tryz.prog Tryz.f33.results.toList=some []:=by kernel_rfl
theorem owner_wr (F:Base) (b:Nat) (s:Str) (bad:Bool) {x:Ex'} {cs:List Value} (hx:RepX F cs x) (hw:XW F x cs) (hl:s.length+(own1 x.op (pt x)).length≤100000000000000) :
  Wr F 33 [.pointer (some ⟨b,0,none⟩),.agg cs.toArray] b s bad (s++own1 x.op (pt x)) (bad||!okX x) (.tuple #[]):=by
 intro H0 hp
 refine Does.shr (K:=fun r H'=>r=.tuple #[]∧∃ Hc,(∀ e∈Hc,e∈H')∧Pst F b (s++own1 x.op (pt x)) (bad||!okX x) Hc) (fun w1 hw1=>?_) fun _ _ ⟨h1,Hc,h2,h3⟩=>⟨Hc,h2,h1,h3⟩
 obtain ⟨op,k,bo,n,s1,s2,s3,d1,d2,d3,d4,d5,d6,nm,a1,n1,c1,a2,n2,c2,rfl⟩:=hx.form
 refine callG_of_svd mixed Tryz.func33 bod33 lowd33 rvd33 (Nat.le_of_ble_eq_true rfl) ?_
 simp only [sd33,svd]
 simp (disch:=first | assumption | exact .symm ‹_› | omega) only [↓ZD,ZW,simprocAttr]
 refine NewB.of fun b3 hb3 hF3=>?_
 have hx0:x.op=op:=by
  generalize hcs:[Value.int IntKind.i64 op,Value.int IntKind.i64 k,Value.bool bo,Value.int IntKind.i64 n,Value.string (bs s1),Value.string (bs s2),Value.string (bs s3),Value.slice d1 d2 d3,Value.slice d4 d5 d6,Value.string (bs nm),Value.slice a1 n1 c1,Value.slice a2 n2 c2]=cs at hx
  cases hx with
  | mk op'=>
   simp only [xcells,List.cons.injEq,Value.int.injEq] at hcs
   exact hcs.1.2.symm
 rw [hx0] at hl ⊢
 by_cases ho:op=6∨op=14
 ·have hl:s.length+(pt x).length+2≤100000000000000:=by rw [own1,if_pos ho] at hl;simp only [List.length_cons,List.length_append,List.length_nil] at hl;omega
  have he:(op==6)=true∨(op==6)=false∧(op==14)=true:=by
   rcases ho with rfl | rfl
   ·exact .inl rfl
   ·exact .inr ⟨rfl,rfl⟩
  have key:∀ e1 e2:Bool,(op==6)=e1→(op==14)=e2→(e1||e2)=true:=by rintro _ _ rfl rfl;simpa using ho
  generalize h1:(op==6)=e1 at *
  generalize h2:(op==14)=e2 at *
  have key:=key e1 e2 rfl rfl
  have hif:(if e1 then true else e2)=true:=by cases e1 <;> simp_all
  simp (disch:=first | assumption | exact .symm ‹_› | omega) only [hF3,h1,h2,↓ZD,ZW,simprocAttr]
  refine ⟨fun _=>?_,fun h0=>absurd (key.symm.trans h0) (by decide)⟩
  refine NewB.of fun b1 hb1 hF1=>?_
  simp only [List.forall_mem_cons,List.mem_cons,forall_eq_or_imp] at hb1
  simp (disch:=first | assumption | exact .symm ‹_› | omega) only [hF1,hF3,h1,h2,↓ZD,ZW,simprocAttr]
  refine CallE.wr [(b1,.cells #[.string (bs [40])] 9 (0,0)),(b3,.cells #[Value.int IntKind.i64 op,Value.int IntKind.i64 k,Value.bool bo,Value.int IntKind.i64 n,Value.string (bs s1),Value.string (bs s2),Value.string (bs s3),Value.slice d1 d2 d3,Value.slice d4 d5 d6,Value.string (bs nm),Value.slice a1 n1 c1,Value.slice a2 n2 c2] 31 (0,0))] H0 (put1 _ b b1 9 s [40] _ (by simp [rdObj,hF1,lk]) (by simp only [List.length_cons,List.length_nil];omega)) hp (by simp +contextual) (by simp +contextual) (by simp only [List.forall_mem_cons,List.not_mem_nil,false_implies,implies_true,and_true];exact ⟨hb1.2,hb3⟩) ?_
  intro H2 hp2 hd2
  simp only [List.forall_mem_cons,List.not_mem_nil,false_implies,implies_true,and_true] at hd2
  simp (disch:=first | assumption | exact .symm ‹_› | omega) only [↓ZD,ZW,simprocAttr]
  refine NewB.of fun b4 hb4 hF4=>?_
  simp only [List.forall_mem_cons,List.mem_cons,forall_eq_or_imp] at hb4
  simp (disch:=first | assumption | exact .symm ‹_› | omega) only [hF3,hF4,↓ZD,ZW,simprocAttr]
  refine CallE.wr [(b4,.cells #[.string (bs [41])] 9 (0,0)),(b1,.cells #[.string (bs [40])] 9 (0,0)),(b3,.cells #[Value.int IntKind.i64 op,Value.int IntKind.i64 k,Value.bool bo,Value.int IntKind.i64 n,Value.string (bs s1),Value.string (bs s2),Value.string (bs s3),Value.slice d1 d2 d3,Value.slice d4 d5 d6,Value.string (bs nm),Value.slice a1 n1 c1,Value.slice a2 n2 c2] 31 (0,0))] H2 (hw _ le_up b (s++[40]) bad (by simp only [List.length_append,List.length_cons,List.length_nil];omega)) hp2 (by simp +contextual) (by simp +contextual) (by simp only [List.forall_mem_cons,List.not_mem_nil,false_implies,implies_true,and_true];exact ⟨hb4.2.2,hd2⟩) ?_
  intro H3 hp3 hd3
  simp only [List.forall_mem_cons,List.not_mem_nil,false_implies,implies_true,and_true] at hd3
  simp (disch:=first | assumption | exact .symm ‹_› | omega) only [finD,↓ZD,ZW,simprocAttr]
  refine ⟨_,_,rfl,put_call_n,CallDG.wr [(b4,.cells #[.string (bs [41])] 9 (0,0))] H3 (put_dfr _ b (s++[40]++pt x) (bad||!okX x) (slsN (l:=[[41]]) (T:=9) (by simp [rdObj,hF4,lk]) (by simp) (by simp)) (by simp;omega) H3 (hp3.up (by simpa using hd3.1))) (by simp +contextual) (by simp) (by simpa using hd3.1) fun H4 hp4=>?_⟩
  simp (disch:=first | assumption | exact .symm ‹_› | omega) only [↓ZD,ZW,simprocAttr]
  refine ⟨H4,by simp +contextual,?_⟩
  unfold own1
  rw [if_pos ho]
  simpa using hp4
 ·rw [own1,if_neg ho] at hl
  have e1:(op==6)=false:=by simp;omega
  have e2:(op==14)=false:=by simp;omega
  simp (disch:=first | assumption | exact .symm ‹_› | omega) only [hF3,e1,e2,↓ZD,ZW,simprocAttr]
  refine CallE.wr [(b3,.cells #[Value.int IntKind.i64 op,Value.int IntKind.i64 k,Value.bool bo,Value.int IntKind.i64 n,Value.string (bs s1),Value.string (bs s2),Value.string (bs s3),Value.slice d1 d2 d3,Value.slice d4 d5 d6,Value.string (bs nm),Value.slice a1 n1 c1,Value.slice a2 n2 c2] 31 (0,0))] H0 (hw _ le_up b s bad (by omega)) hp (by simp +contextual) (by simp +contextual) (by simpa using hb3) ?_
  intro H2 hp2 hd2
  simp (disch:=first | assumption | exact .symm ‹_› | omega) only [finD,↓ZD,ZW,simprocAttr]
  refine ⟨H2,by simp +contextual,?_⟩
  unfold own1
  rw [if_neg ho]
  exact hp2
theorem HLe_app {A:Hp} {b:Nat} {o:Obj} (h:∀ e∈A,lk A e.1=some e.2) (hd:∀ e∈A,e.1≠b):HLe A ((b,o)::A):=by
 have key:∀ B:Hp,(∀ e∈B,lk ((b,o)::A) e.1=some e.2)→HLe B ((b,o)::A):=fun B=>by
  induction B with
  | nil=>intro _;trivial
  | cons e r ih=>
   obtain ⟨b',o'⟩:=e
   intro h
   exact ⟨h _ List.mem_cons_self,ih fun e he=>h e (List.mem_cons_of_mem _ he)⟩
 refine key A fun e he=>?_
 simp only [lk]
 rw [if_neg fun x=>hd e he x.symm]
 exact h e he
theorem okL_all':∀ l:List Ex',okL l=l.all okX
 | []=>by simp [okL]
 | x::l=>by rw [okL,okL_all' l,List.all_cons]
def AW (F:Base) (fv:Value) (b:Nat) (A:Nat→Str) (n:Nat):Prop:=∃ f fi ca,fv=.func (.func f) fi ca∧callable Tryz.prog f=true∧∀ F':Base,(∀ b o,F b=some o→F' b=some o)→∀ i < n,∀ s bad,s.length+(A i).length≤100000000000000 →
 ∀ H0,Pst F' b s bad H0→Does Tryz.prog F' f (fi++[Value.int .i64 i].toArray++ca) H0 (fun r H'=>r=.tuple #[]∧Pst F' b (s++A i) bad H')
theorem CallEF.wr {X:List Nat} {F:Base} {w0:World} {fv:Value} {H:Hp} {K:Value→Hp→Prop} {b i n:Nat} {A:Nat→Str} {s0:Str} {bad0:Bool} (Hr H0:Hp) (h:AW F fv b A n)
  (hi:i < n) (hl:s0.length+(A i).length≤100000000000000) (hp:Pst F b s0 bad0 H0) (h0:∀ e∈H0,e∈H) (hr:∀ e∈Hr,e∈H) (hd:∀ e'∈Hr,∀ e∈H0,e.1≠e'.1)
  (hk:∀ H',Pst F b (s0++A i) bad0 H'→(∀ e'∈Hr,∀ e∈H',e.1≠e'.1)→K (.tuple #[]) (Hr++H')):@CallEF Tryz.prog X F w0 fv [.int .i64 i] H ⟨K⟩:=by
 obtain ⟨f,fi,ca,rfl,hc,hw⟩:=h
 exact CallEF.does H0 Hr hc (hw (rdObj F Hr) le_up i hi s0 bad0 hl H0 (hp.up hd)) (fun _ _ h=>h) h0 hr hd fun v H' ⟨hv,hp'⟩ _ h2 _=>by subst hv;exact hk H' hp'.down h2
theorem row_wr (F:Base) (b:Nat) (s:Str) (bad:Bool) {fv:Value} {A:Nat→Str} {a1:Option Addr} {c1:Nat} {kids:List Ex'} {g1:Nat→List Value} (hA:AW F fv b A kids.length) (hc1:kids.length≤c1) (hl1:kids.length≤9223372036854775807)
  (h1:∀ (i:Nat) (t:Ex'),kids[i]?=some t→Cl F a1 12 i (g1 i)) (r1:∀ (i:Nat) (t:Ex'),kids[i]?=some t→RepX F (g1 i) t) (hw:∀ (i:Nat) (t:Ex'),kids[i]?=some t→XW F t (g1 i))
  (hl:s.length+(rowT A 0 (ptL kids)).length≤100000000000000) :
  Wr F 35 [.pointer (some ⟨b,0,none⟩),.slice a1 kids.length c1,fv] b s bad (s++rowT A 0 (ptL kids)) (bad||!okL kids) (.tuple #[]):=by
 refine Wr.of_svc mixed Tryz.func35 low35 (Nat.le_of_ble_eq_true rfl) fun H0 hp w0 hw0=>?_
 simp (disch:=first | assumption | exact .symm ‹_› | omega) only [fu35,↓ZD,ZW,simprocAttr]
 refine LoopL.inv (α:=Nat×Hp) (fun x=>x.1≤kids.length∧Pst F b (s++rowT A 0 ((ptL kids).take x.1)) (bad||!(kids.take x.1).all okX) x.2)
  (fun x=>[(0,some (.pointer (some ⟨b,0,none⟩))),(2,some fv),(8,some (.slice a1 kids.length c1)),(9,some (.int .i64 kids.length)),(10,some (.int .i64 x.1))])
  (fun x=>x.2) (fun x=>kids.length - x.1) (0,H0) ⟨Nat.zero_le _,by simpa [rowT] using hp⟩ (by (simp (disch:=first | assumption | exact .symm ‹_› | omega) only [↓ZD,ZW,simprocAttr];try trivial)) hp.hle ?_
 rintro ⟨i,H⟩ ⟨hi,hpi⟩
 simp only at hi hpi ⊢
 by_cases hlt:i < kids.length
 ·have hd:decide ((i:Int) < (kids.length:Int))=true:=by simp;omega
  have gx:=getX hlt
  have hx:=hw i _ gx
  have hle:=rowT_take_le A (ptL kids) (i+1)
  have e2:=rowT_take A (ptL_get gx)
  rw [e2] at hle
  simp only [List.length_append] at hle
  have e3:(bad||!(kids.take (i+1)).all okX)=(bad||!(kids.take i).all okX||!okX (kids.getD i nilX)):=by
   rw [take_snoc gx,List.all_append];simp
   cases bad <;> simp
  obtain ⟨q1,q2,q3,q4,q5,q6,q7,q8,q9,q10,q11,q12,q13,q14,q15,q16,q17,q18,q19,q20,e1⟩:=(r1 i _ gx).form
  obtain ⟨ba,oa,rfl,hla⟩:=(h1 i _ gx).ldn
  rw [e1] at hx hla
  have hsl:(s++rowT A 0 ((ptL kids).take i)).length+((if 0 < i then ([44,32]:Str) else []).length+((A i).length+(pt (kids.getD i nilX)).length))≤100000000000000:=by
   simp only [List.length_append];omega
  generalize hS:s++rowT A 0 ((ptL kids).take i)=S at hpi hsl
  generalize hB:(bad||!(kids.take i).all okX)=B at hpi e3
  by_cases h0:0 < i
  ·have hz:decide ((0:Int) < (i:Int))=true:=by simp;omega
   rw [if_pos h0] at hsl
   simp only [List.length_cons,List.length_nil] at hsl
   simp (disch:=first | assumption | exact .symm ‹_› | omega) only [hd,hz,Nat.mul_one,↓ZD,ZW,simprocAttr]
   refine conj.of (by omega) ?_
   simp (disch:=first | assumption | exact .symm ‹_› | omega) only [hd,hz,Int.toNat_natCast,↓hla,↓ZD,ZW,simprocAttr]
   refine NewB.of fun b7 hb7 hF7=>?_
   have hu:∀ o,upd H b7 o=H:=fun o=>upd_new hb7
   simp (disch:=first | assumption | exact .symm ‹_› | omega) only [hd,hz,hF7,hu,↓ZD,ZW,simprocAttr]
   refine NewB.of fun b5 hb5 hF5=>?_
   simp only [List.forall_mem_cons,List.mem_cons,forall_eq_or_imp] at hb5
   simp (disch:=first | assumption | exact .symm ‹_› | omega) only [hF7,hF5,↓ZD,ZW,simprocAttr]
   refine CallE.wr [(b5,.cells #[.string (bs [44,32])] 9 (0,0)),(b7,.cells #[Value.int IntKind.i64 q1,Value.int IntKind.i64 q2,Value.bool q3,Value.int IntKind.i64 q4,Value.string (bs q5),Value.string (bs q6),Value.string (bs q7),Value.slice q8 q9 q10,Value.slice q11 q12 q13,Value.string (bs q14),Value.slice q15 q16 q17,Value.slice q18 q19 q20] 31 (0,0))] H (put1 _ b b5 9 S [44,32] _ (by simp [rdObj,hF5,lk]) (by simp only [List.length_cons,List.length_nil];omega)) hpi (by simp +contextual) (by simp +contextual) (by simp only [List.forall_mem_cons,List.not_mem_nil,false_implies,implies_true,and_true];exact ⟨hb5.2,hb7⟩) ?_
   intro H2 hp2 hd2
   simp only [List.forall_mem_cons,List.not_mem_nil,false_implies,implies_true,and_true] at hd2
   simp (disch:=first | assumption | exact .symm ‹_› | omega) only [↓ZD,ZW,simprocAttr]
   refine CallEF.wr [(b7,.cells #[Value.int IntKind.i64 q1,Value.int IntKind.i64 q2,Value.bool q3,Value.int IntKind.i64 q4,Value.string (bs q5),Value.string (bs q6),Value.string (bs q7),Value.slice q8 q9 q10,Value.slice q11 q12 q13,Value.string (bs q14),Value.slice q15 q16 q17,Value.slice q18 q19 q20] 31 (0,0))] H2 hA hlt (by (try simp only [List.length_append,List.length_cons,List.length_nil]);omega) hp2 (by simp +contextual) (by simp +contextual) (by simpa using hd2.2) ?_
   intro H3 hp3 hd3
   simp only [List.forall_mem_cons,List.not_mem_nil,false_implies,implies_true,and_true] at hd3
   simp (disch:=first | assumption | exact .symm ‹_› | omega) only [hF7,↓ZD,ZW,simprocAttr]
   refine CallE.wr [(b7,.cells #[Value.int IntKind.i64 q1,Value.int IntKind.i64 q2,Value.bool q3,Value.int IntKind.i64 q4,Value.string (bs q5),Value.string (bs q6),Value.string (bs q7),Value.slice q8 q9 q10,Value.slice q11 q12 q13,Value.string (bs q14),Value.slice q15 q16 q17,Value.slice q18 q19 q20] 31 (0,0))] H3 (hx _ le_up b _ _ (by simp only [List.length_append,List.length_cons,List.length_nil];omega)) hp3 (by simp +contextual) (by simp +contextual) (by simpa using hd3) ?_
   intro H4 hp4 hd4
   simp only [List.forall_mem_cons,List.not_mem_nil,false_implies,implies_true,and_true] at hd4
   simp (disch:=first | assumption | exact .symm ‹_› | omega) only [↓ZD,ZW,simprocAttr]
   refine invK.on (i+1,H4) ⟨by show i+1≤_;omega,by rw [e2,← List.append_assoc,hS,e3,if_pos h0];simpa only [List.append_assoc] using hp4⟩ (by show _ - (i+1) < _ - i;omega) ?_ (HLe_app hp4.lk hd4)
   simp only [Le_nil,Le_cons]
   simp (disch:=first | assumption | exact .symm ‹_› | omega) only [↓ZD,ZW,simprocAttr]
   first | done | rfl
  ·have hz:decide ((0:Int) < (i:Int))=false:=by simp;omega
   rw [if_neg h0] at hsl
   simp only [List.length_cons,List.length_nil] at hsl
   simp (disch:=first | assumption | exact .symm ‹_› | omega) only [hd,hz,Nat.mul_one,↓ZD,ZW,simprocAttr]
   refine conj.of (by omega) ?_
   simp (disch:=first | assumption | exact .symm ‹_› | omega) only [hd,hz,Int.toNat_natCast,↓hla,↓ZD,ZW,simprocAttr]
   refine NewB.of fun b7 hb7 hF7=>?_
   have hu:∀ o,upd H b7 o=H:=fun o=>upd_new hb7
   simp (disch:=first | assumption | exact .symm ‹_› | omega) only [hd,hz,hF7,hu,↓ZD,ZW,simprocAttr]
   refine CallEF.wr [(b7,.cells #[Value.int IntKind.i64 q1,Value.int IntKind.i64 q2,Value.bool q3,Value.int IntKind.i64 q4,Value.string (bs q5),Value.string (bs q6),Value.string (bs q7),Value.slice q8 q9 q10,Value.slice q11 q12 q13,Value.string (bs q14),Value.slice q15 q16 q17,Value.slice q18 q19 q20] 31 (0,0))] H hA hlt (by (try simp only [List.length_append,List.length_cons,List.length_nil]);omega) hpi (by simp +contextual) (by simp +contextual) (by simpa using hb7) ?_
   intro H3 hp3 hd3
   simp only [List.forall_mem_cons,List.not_mem_nil,false_implies,implies_true,and_true] at hd3
   simp (disch:=first | assumption | exact .symm ‹_› | omega) only [hF7,↓ZD,ZW,simprocAttr]
   refine CallE.wr [(b7,.cells #[Value.int IntKind.i64 q1,Value.int IntKind.i64 q2,Value.bool q3,Value.int IntKind.i64 q4,Value.string (bs q5),Value.string (bs q6),Value.string (bs q7),Value.slice q8 q9 q10,Value.slice q11 q12 q13,Value.string (bs q14),Value.slice q15 q16 q17,Value.slice q18 q19 q20] 31 (0,0))] H3 (hx _ le_up b _ _ (by simp only [List.length_append,List.length_cons,List.length_nil];omega)) hp3 (by simp +contextual) (by simp +contextual) (by simpa using hd3) ?_
   intro H4 hp4 hd4
   simp only [List.forall_mem_cons,List.not_mem_nil,false_implies,implies_true,and_true] at hd4
   simp (disch:=first | assumption | exact .symm ‹_› | omega) only [↓ZD,ZW,simprocAttr]
   refine invK.on (i+1,H4) ⟨by show i+1≤_;omega,by rw [e2,← List.append_assoc,hS,e3,if_neg h0];simpa only [List.append_assoc,List.nil_append] using hp4⟩ (by show _ - (i+1) < _ - i;omega) ?_ (HLe_app hp4.lk hd4)
   simp only [Le_nil,Le_cons]
   simp (disch:=first | assumption | exact .symm ‹_› | omega) only [↓ZD,ZW,simprocAttr]
   first | done | rfl
 ·have hd:decide ((i:Int) < (kids.length:Int))=false:=by simp;omega
  obtain rfl:i=kids.length:=by omega
  rw [List.take_of_length_le (by rw [ptL_len];omega),List.take_length,← okL_all'] at hpi
  simp (disch:=first | assumption | exact .symm ‹_› | omega) only [hd,↓ZD,ZW,simprocAttr]
  exact ⟨H,fun e he=>he,hpi⟩
theorem wr_1 {X:List Nat} {F:Base} {w0:World} {f:Nat} {args:List Value} {K:Value→Hp→Prop} {b:Nat} {s0 s1:Str} {bad0 bad1:Bool} {R:Value} {H0:Hp} {b0:Nat} {o0:Obj} (h:Wr (rdObj F [(b0,o0)]) f args b s0 bad0 s1 bad1 R) (hp:Pst F b s0 bad0 H0) (d0:∀ e∈H0,e.1≠b0)
  (hk:∀ H',Pst F b s1 bad1 H'→(∀ e∈H',e.1≠b0)→K R ((b0,o0)::H')):@CallE Tryz.prog X F w0 f args.toArray ((b0,o0)::H0) ⟨K⟩:=
 CallE.wr [(b0,o0)] H0 h hp (fun e he=>by simp [he]) (fun e he=>by simp at he;rcases he with rfl <;> simp) (fun e' he' e he=>by simp at he';rcases he' with rfl <;> simp only <;> (first | exact d0 e he)) fun H' hp' hd=>hk H' hp' (fun e he=>hd (b0,o0) (by simp) e he)
theorem wr_11 {X:List Nat} {F:Base} {w0:World} {f:Nat} {args:List Value} {K:Value→Hp→Prop} {b:Nat} {s0 s1:Str} {bad0 bad1:Bool} {R:Value} {H0:Hp} {b0 b1:Nat} {o0 o1:Obj} (h:Wr (rdObj F [(b0,o0),(b1,o1)]) f args b s0 bad0 s1 bad1 R) (hp:Pst F b s0 bad0 H0) (d0:∀ e∈H0,e.1≠b0) (d1:∀ e∈H0,e.1≠b1)
  (hk:∀ H',Pst F b s1 bad1 H'→(∀ e∈H',e.1≠b0)→(∀ e∈H',e.1≠b1)→K R ((b0,o0)::(b1,o1)::H')):@CallE Tryz.prog X F w0 f args.toArray ((b0,o0)::(b1,o1)::H0) ⟨K⟩:=
 CallE.wr [(b0,o0),(b1,o1)] H0 h hp (fun e he=>by simp [he]) (fun e he=>by simp at he;rcases he with rfl | rfl <;> simp) (fun e' he' e he=>by simp at he';rcases he' with rfl | rfl <;> simp only <;> (first | exact d0 e he | exact d1 e he)) fun H' hp' hd=>hk H' hp' (fun e he=>hd (b0,o0) (by simp) e he) (fun e he=>hd (b1,o1) (by simp) e he)
theorem wr_111 {X:List Nat} {F:Base} {w0:World} {f:Nat} {args:List Value} {K:Value→Hp→Prop} {b:Nat} {s0 s1:Str} {bad0 bad1:Bool} {R:Value} {H0:Hp} {b0 b1 b2:Nat} {o0 o1 o2:Obj} (h:Wr (rdObj F [(b0,o0),(b1,o1),(b2,o2)]) f args b s0 bad0 s1 bad1 R) (hp:Pst F b s0 bad0 H0) (d0:∀ e∈H0,e.1≠b0) (d1:∀ e∈H0,e.1≠b1) (d2:∀ e∈H0,e.1≠b2)
  (hk:∀ H',Pst F b s1 bad1 H'→(∀ e∈H',e.1≠b0)→(∀ e∈H',e.1≠b1)→(∀ e∈H',e.1≠b2)→K R ((b0,o0)::(b1,o1)::(b2,o2)::H')):@CallE Tryz.prog X F w0 f args.toArray ((b0,o0)::(b1,o1)::(b2,o2)::H0) ⟨K⟩:=
 CallE.wr [(b0,o0),(b1,o1),(b2,o2)] H0 h hp (fun e he=>by simp [he]) (fun e he=>by simp at he;rcases he with rfl | rfl | rfl <;> simp) (fun e' he' e he=>by simp at he';rcases he' with rfl | rfl | rfl <;> simp only <;> (first | exact d0 e he | exact d1 e he | exact d2 e he)) fun H' hp' hd=>hk H' hp' (fun e he=>hd (b0,o0) (by simp) e he) (fun e he=>hd (b1,o1) (by simp) e he) (fun e he=>hd (b2,o2) (by simp) e he)
theorem wr_01 {X:List Nat} {F:Base} {w0:World} {f:Nat} {args:List Value} {K:Value→Hp→Prop} {b:Nat} {s0 s1:Str} {bad0 bad1:Bool} {R:Value} {H0:Hp} {b0 b1:Nat} {o0 o1:Obj} (h:Wr (rdObj F [(b1,o1)]) f args b s0 bad0 s1 bad1 R) (hp:Pst F b s0 bad0 H0) (d1:∀ e∈H0,e.1≠b1)
  (hk:∀ H',Pst F b s1 bad1 H'→(∀ e∈H',e.1≠b1)→K R ((b1,o1)::H')):@CallE Tryz.prog X F w0 f args.toArray ((b0,o0)::(b1,o1)::H0) ⟨K⟩:=
 CallE.wr [(b1,o1)] H0 h hp (fun e he=>by simp [he]) (fun e he=>by simp at he;rcases he with rfl <;> simp) (fun e' he' e he=>by simp at he';rcases he' with rfl <;> simp only <;> (first | exact d1 e he)) fun H' hp' hd=>hk H' hp' (fun e he=>hd (b1,o1) (by simp) e he)
theorem wr_011 {X:List Nat} {F:Base} {w0:World} {f:Nat} {args:List Value} {K:Value→Hp→Prop} {b:Nat} {s0 s1:Str} {bad0 bad1:Bool} {R:Value} {H0:Hp} {b0 b1 b2:Nat} {o0 o1 o2:Obj} (h:Wr (rdObj F [(b1,o1),(b2,o2)]) f args b s0 bad0 s1 bad1 R) (hp:Pst F b s0 bad0 H0) (d1:∀ e∈H0,e.1≠b1) (d2:∀ e∈H0,e.1≠b2)
  (hk:∀ H',Pst F b s1 bad1 H'→(∀ e∈H',e.1≠b1)→(∀ e∈H',e.1≠b2)→K R ((b1,o1)::(b2,o2)::H')):@CallE Tryz.prog X F w0 f args.toArray ((b0,o0)::(b1,o1)::(b2,o2)::H0) ⟨K⟩:=
 CallE.wr [(b1,o1),(b2,o2)] H0 h hp (fun e he=>by simp [he]) (fun e he=>by simp at he;rcases he with rfl | rfl <;> simp) (fun e' he' e he=>by simp at he';rcases he' with rfl | rfl <;> simp only <;> (first | exact d1 e he | exact d2 e he)) fun H' hp' hd=>hk H' hp' (fun e he=>hd (b1,o1) (by simp) e he) (fun e he=>hd (b2,o2) (by simp) e he)
theorem wr_101 {X:List Nat} {F:Base} {w0:World} {f:Nat} {args:List Value} {K:Value→Hp→Prop} {b:Nat} {s0 s1:Str} {bad0 bad1:Bool} {R:Value} {H0:Hp} {b0 b1 b2:Nat} {o0 o1 o2:Obj} (h:Wr (rdObj F [(b0,o0),(b2,o2)]) f args b s0 bad0 s1 bad1 R) (hp:Pst F b s0 bad0 H0) (d0:∀ e∈H0,e.1≠b0) (d2:∀ e∈H0,e.1≠b2)
  (hk:∀ H',Pst F b s1 bad1 H'→(∀ e∈H',e.1≠b0)→(∀ e∈H',e.1≠b2)→K R ((b0,o0)::(b2,o2)::H')):@CallE Tryz.prog X F w0 f args.toArray ((b0,o0)::(b1,o1)::(b2,o2)::H0) ⟨K⟩:=
 CallE.wr [(b0,o0),(b2,o2)] H0 h hp (fun e he=>by simp [he]) (fun e he=>by simp at he;rcases he with rfl | rfl <;> simp) (fun e' he' e he=>by simp at he';rcases he' with rfl | rfl <;> simp only <;> (first | exact d0 e he | exact d2 e he)) fun H' hp' hd=>hk H' hp' (fun e he=>hd (b0,o0) (by simp) e he) (fun e he=>hd (b2,o2) (by simp) e he)
theorem wr_0111 {X:List Nat} {F:Base} {w0:World} {f:Nat} {args:List Value} {K:Value→Hp→Prop} {b:Nat} {s0 s1:Str} {bad0 bad1:Bool} {R:Value} {H0:Hp} {b0 b1 b2 b3:Nat} {o0 o1 o2 o3:Obj} (h:Wr (rdObj F [(b1,o1),(b2,o2),(b3,o3)]) f args b s0 bad0 s1 bad1 R) (hp:Pst F b s0 bad0 H0) (d1:∀ e∈H0,e.1≠b1) (d2:∀ e∈H0,e.1≠b2) (d3:∀ e∈H0,e.1≠b3)
  (hk:∀ H',Pst F b s1 bad1 H'→(∀ e∈H',e.1≠b1)→(∀ e∈H',e.1≠b2)→(∀ e∈H',e.1≠b3)→K R ((b1,o1)::(b2,o2)::(b3,o3)::H')):@CallE Tryz.prog X F w0 f args.toArray ((b0,o0)::(b1,o1)::(b2,o2)::(b3,o3)::H0) ⟨K⟩:=
 CallE.wr [(b1,o1),(b2,o2),(b3,o3)] H0 h hp (fun e he=>by simp [he]) (fun e he=>by simp at he;rcases he with rfl | rfl | rfl <;> simp) (fun e' he' e he=>by simp at he';rcases he' with rfl | rfl | rfl <;> simp only <;> (first | exact d1 e he | exact d2 e he | exact d3 e he)) fun H' hp' hd=>hk H' hp' (fun e he=>hd (b1,o1) (by simp) e he) (fun e he=>hd (b2,o2) (by simp) e he) (fun e he=>hd (b3,o3) (by simp) e he)
theorem wr_1011 {X:List Nat} {F:Base} {w0:World} {f:Nat} {args:List Value} {K:Value→Hp→Prop} {b:Nat} {s0 s1:Str} {bad0 bad1:Bool} {R:Value} {H0:Hp} {b0 b1 b2 b3:Nat} {o0 o1 o2 o3:Obj} (h:Wr (rdObj F [(b0,o0),(b2,o2),(b3,o3)]) f args b s0 bad0 s1 bad1 R) (hp:Pst F b s0 bad0 H0) (d0:∀ e∈H0,e.1≠b0) (d2:∀ e∈H0,e.1≠b2) (d3:∀ e∈H0,e.1≠b3)
  (hk:∀ H',Pst F b s1 bad1 H'→(∀ e∈H',e.1≠b0)→(∀ e∈H',e.1≠b2)→(∀ e∈H',e.1≠b3)→K R ((b0,o0)::(b2,o2)::(b3,o3)::H')):@CallE Tryz.prog X F w0 f args.toArray ((b0,o0)::(b1,o1)::(b2,o2)::(b3,o3)::H0) ⟨K⟩:=
 CallE.wr [(b0,o0),(b2,o2),(b3,o3)] H0 h hp (fun e he=>by simp [he]) (fun e he=>by simp at he;rcases he with rfl | rfl | rfl <;> simp) (fun e' he' e he=>by simp at he';rcases he' with rfl | rfl | rfl <;> simp only <;> (first | exact d0 e he | exact d2 e he | exact d3 e he)) fun H' hp' hd=>hk H' hp' (fun e he=>hd (b0,o0) (by simp) e he) (fun e he=>hd (b2,o2) (by simp) e he) (fun e he=>hd (b3,o3) (by simp) e he)
theorem wr_1111 {X:List Nat} {F:Base} {w0:World} {f:Nat} {args:List Value} {K:Value→Hp→Prop} {b:Nat} {s0 s1:Str} {bad0 bad1:Bool} {R:Value} {H0:Hp} {b0 b1 b2 b3:Nat} {o0 o1 o2 o3:Obj} (h:Wr (rdObj F [(b0,o0),(b1,o1),(b2,o2),(b3,o3)]) f args b s0 bad0 s1 bad1 R) (hp:Pst F b s0 bad0 H0) (d0:∀ e∈H0,e.1≠b0) (d1:∀ e∈H0,e.1≠b1) (d2:∀ e∈H0,e.1≠b2) (d3:∀ e∈H0,e.1≠b3)
  (hk:∀ H',Pst F b s1 bad1 H'→(∀ e∈H',e.1≠b0)→(∀ e∈H',e.1≠b1)→(∀ e∈H',e.1≠b2)→(∀ e∈H',e.1≠b3)→K R ((b0,o0)::(b1,o1)::(b2,o2)::(b3,o3)::H')):@CallE Tryz.prog X F w0 f args.toArray ((b0,o0)::(b1,o1)::(b2,o2)::(b3,o3)::H0) ⟨K⟩:=
 CallE.wr [(b0,o0),(b1,o1),(b2,o2),(b3,o3)] H0 h hp (fun e he=>by simp [he]) (fun e he=>by simp at he;rcases he with rfl | rfl | rfl | rfl <;> simp) (fun e' he' e he=>by simp at he';rcases he' with rfl | rfl | rfl | rfl <;> simp only <;> (first | exact d0 e he | exact d1 e he | exact d2 e he | exact d3 e he)) fun H' hp' hd=>hk H' hp' (fun e he=>hd (b0,o0) (by simp) e he) (fun e he=>hd (b1,o1) (by simp) e he) (fun e he=>hd (b2,o2) (by simp) e he) (fun e he=>hd (b3,o3) (by simp) e he)
theorem new_1 {F:Base} {H0:Hp} {o:Obj} {k:Nat→Hp→Prop} {b0:Nat} {o0:Obj} (h:∀ b,b0≠b→(∀ e∈H0,e.1≠b)→F b=none→k b ((b,o)::(b0,o0)::H0)):@NewB F ((b0,o0)::H0) o ⟨k⟩:=
 NewB.of fun b hb hF=>h b (hb (b0,o0) (by simp)) (fun e he=>hb e (by simp [he])) hF
theorem new_2 {F:Base} {H0:Hp} {o:Obj} {k:Nat→Hp→Prop} {b0 b1:Nat} {o0 o1:Obj} (h:∀ b,b0≠b→b1≠b→(∀ e∈H0,e.1≠b)→F b=none→k b ((b,o)::(b0,o0)::(b1,o1)::H0)):@NewB F ((b0,o0)::(b1,o1)::H0) o ⟨k⟩:=
 NewB.of fun b hb hF=>h b (hb (b0,o0) (by simp)) (hb (b1,o1) (by simp)) (fun e he=>hb e (by simp [he])) hF
theorem new_3 {F:Base} {H0:Hp} {o:Obj} {k:Nat→Hp→Prop} {b0 b1 b2:Nat} {o0 o1 o2:Obj} (h:∀ b,b0≠b→b1≠b→b2≠b→(∀ e∈H0,e.1≠b)→F b=none→k b ((b,o)::(b0,o0)::(b1,o1)::(b2,o2)::H0)):@NewB F ((b0,o0)::(b1,o1)::(b2,o2)::H0) o ⟨k⟩:=
 NewB.of fun b hb hF=>h b (hb (b0,o0) (by simp)) (hb (b1,o1) (by simp)) (hb (b2,o2) (by simp)) (fun e he=>hb e (by simp [he])) hF
theorem ahQ_call:callable Tryz.prog 36=true:=by kernel_rfl
theorem ahN_call:callable Tryz.prog 37=true:=by kernel_rfl
theorem ahQ_aw (F:Base) (b n:Nat):AW F (.func (.func 36) #[] #[]) b ahQ n:=by
 refine ⟨_,_,_,rfl,ahQ_call,fun F' hF i hi s bad hl H0 hp=>?_⟩
 refine does_of_svc (args:=[Value.int .i64 i]) mixed Tryz.func36 low36 (Nat.le_of_ble_eq_true rfl) (fun w0 hw0=>?_)
 simp (disch:=first | assumption | exact .symm ‹_› | omega) only [fu36,↓ZD,ZW,simprocAttr]
 simpa [ahQ] using hp
theorem ahN_aw (F:Base) (b b2 b3 T2:Nat) {op:Int} {v:LV} {u1 u2 vk vn:Value} {nm:Str} {names:List Str} (hN:SlS F vn names) (hs:∀ x∈names,SmT x)
  (h2:F b2=some (.cells #[.pointer (some ⟨b,0,none⟩)] T2 (0,0))) (h3:F b3=some (.cells (xcells op v u1 u2 nm vk vn).toArray 31 (0,0))) :
  AW F (.func (.func 37) #[] #[.pointer (some ⟨b2,0,none⟩),.pointer (some ⟨b3,0,none⟩)]) b (ahN names) names.length:=by
 refine ⟨_,_,_,rfl,ahN_call,fun F' hF i hi s bad hl H0 hp=>?_⟩
 obtain ⟨an,cn,rfl,hcn,hln,hh⟩:=hN
 have h2:=hF _ _ h2
 have h3:=hF _ _ h3
 have gx:=getS hi
 obtain ⟨ba,oa,rfl,hla⟩:=((hh.1 i _ gx).mono hF).ld1
 simp only [Nat.mul_one] at hla
 have hsm:=hs _ (List.mem_of_getElem? gx)
 unfold SmT at hsm
 refine Does.shr (K:=fun r H'=>r=.tuple #[]∧∃ Hc,(∀ e∈Hc,e∈H')∧Pst F' b (s++ahN names i) bad Hc) ?_ fun _ _ ⟨h1,Hc,h2,h3⟩=>⟨Hc,h2,h1,h3⟩
 refine does_of_svc (args:=[Value.int .i64 i,.pointer (some ⟨b2,0,none⟩),.pointer (some ⟨b3,0,none⟩)]) mixed Tryz.func37 low37 (Nat.le_of_ble_eq_true rfl) (fun w0 hw0=>?_)
 unfold xcells at h3
 simp (disch:=first | assumption | exact .symm ‹_› | omega) only [fu37,h2,h3,↓ZD,ZW,simprocAttr]
 refine conj.of (by omega) ?_
 simp (disch:=first | assumption | exact .symm ‹_› | omega) only [h2,h3,Int.toNat_natCast,Nat.mul_one,↓hla,↓ZD,ZW,simprocAttr]
 refine CallQ.of _ (quote_pure _ (names.getD i []) (by omega)) ?_
 simp (disch:=first | assumption | exact .symm ‹_› | omega) only [h2,h3,↓ZD,ZW,simprocAttr]
 refine NewB.of fun b1 hb1 hF1=>?_
 simp (disch:=first | assumption | exact .symm ‹_› | omega) only [hF1,↓ZD,ZW,simprocAttr]
 refine CallE.wr [(b1,.cells #[.string (bs (quote (names.getD i []))),.string (bs [58,32])] 9 (0,0))] H0 (put2 _ b b1 9 s (quote (names.getD i [])) [58,32] _ (by simp [rdObj,hF1,lk]) (by simpa [ahN] using hl)) hp (by simp +contextual) (by simp) (by simpa using hb1) ?_
 intro H2 hp2 hd2
 simp (disch:=first | assumption | exact .symm ‹_› | omega) only [↓ZD,ZW,simprocAttr]
 exact ⟨H2,by simp +contextual,hp2⟩
def HasSigns (F:Base):Prop:=∃ b es c T fz,F 0=some (.cells #[.map (some b)] T fz)∧F b=some (.map es c) ∧
 ∀ k:Int,∃ j,Instr.findNow (.int .i64) (.int .i64 k) es.toList 0=some (if isTwo k then some (j,.string (bs (signT k))) else none)
theorem HasSigns.mono {F F':Base} (h:HasSigns F) (hF:∀ b o,F b=some o→F' b=some o):HasSigns F':=by
 obtain ⟨b,es,c,T,fz,h1,h2,h3⟩:=h
 exact ⟨b,es,c,T,fz,hF _ _ h1,hF _ _ h2,h3⟩
def ifT (x y z:Ex') (i:Int):Str:=(if 0 < i then [40,105,102,32]++pt x else [])++((if 1 < i then [32,116,104,101,110,32]++pt y else [])++(if 2 < i then [32,101,108,115,101,32]++pt z else []))
def ifB (x y z:Ex') (i:Int):Bool:=(decide (i≤0)||okX x)&&((decide (i≤1)||okX y)&&(decide (i≤2)||okX z))
theorem HLe_pre {Hr A:Hp} (h:∀ e∈A,lk A e.1=some e.2) (hd:∀ e∈A,∀ e'∈Hr,e.1≠e'.1):HLe A (Hr++A):=by
 have key:∀ B:Hp,(∀ e∈B,lk (Hr++A) e.1=some e.2)→HLe B (Hr++A):=fun B=>by
  induction B with
  | nil=>intro _;trivial
  | cons e r ih=>
   obtain ⟨b',o'⟩:=e
   intro h
   exact ⟨h _ List.mem_cons_self,ih fun e he=>h e (List.mem_cons_of_mem _ he)⟩
 refine key A fun e he=>?_
 rw [lk_append,lk_none fun e' he'=>(hd e he e' he').symm]
 exact h e he
theorem sum_mem' {x:Str}:∀ {l:List Str},x∈l→x.length+1≤(l.map fun x=>x.length+1).sum
 | y::l,h=>by
  rw [List.map_cons,List.sum_cons]
  rcases List.mem_cons.1 h with rfl | h
  ·omega
  ·have:=sum_mem' h;omega
theorem Pst.cast {F:Base} {b:Nat} {s s':Str} {bad bad':Bool} {H:Hp} (h:Pst F b s bad H) (e1:s=s') (e2:bad=bad'):Pst F b s' bad' H:=by subst e1 e2;exact h
set_option maxHeartbeats 4000000 in
theorem expr_node (F:Base) (hM:HasM F) (hS:HasSigns F) {op:Int} {v:LV} {d1 d4:Option Addr} {d2 d3 d5 d6:Nat} {nm:Str} {a1:Option Addr} {c1:Nat} {kids:List Ex'} {g1:Nat→List Value} {vn:Value} {names:List Str}
  (hop:I64 op) (hk:I64 v.kind) (hn:I64 v.n) (hl1:kids.length≤9223372036854775807) (hc1:kids.length≤c1)
  (h1:∀ (i:Nat) (t:Ex'),kids[i]?=some t→Cl F a1 12 i (g1 i)) (r1:∀ (i:Nat) (t:Ex'),kids[i]?=some t→RepX F (g1 i) t) (hN:SlS F vn names)
  (hw:wt (.mk op v nm kids names)≤1048576) (ih:∀ (i:Nat) (t:Ex'),kids[i]?=some t→XW F t (g1 i)) (b:Nat) (s:Str) (bad:Bool) (hl:s.length+(pt (.mk op v nm kids names)).length≤100000000000000) :
  Wr F 17 [.pointer (some ⟨b,0,none⟩),.agg (xcells op v (.slice d1 d2 d3) (.slice d4 d5 d6) nm (.slice a1 kids.length c1) vn).toArray] b s bad (s++pt (.mk op v nm kids names)) (bad||!okX (.mk op v nm kids names)) (.tuple #[]):=by
 have hN0:=hN
 obtain ⟨an,cn,rfl,hcn,hln,hh⟩:=hN
 rw [wt] at hw
 have kp:=kids_pure F op
 refine Wr.of_svc mixed Tryz.func17 low17 (Nat.le_of_ble_eq_true rfl) fun H0 hp w0 hw0=>?_
 unfold xcells
 simp (disch:=first | assumption | exact .symm ‹_› | omega) only [fu17,↓ZD,ZW,simprocAttr]
 refine NewB.of fun b2 hb2 hF2=>?_
 simp (disch:=first | assumption | exact .symm ‹_› | omega) only [hF2,↓ZD,ZW,simprocAttr]
 refine NewB.of fun b3 hb3 hF3=>?_
 simp only [List.forall_mem_cons,List.mem_cons,forall_eq_or_imp] at hb3
 obtain ⟨hb23,hb3⟩:=hb3
 simp (disch:=first | assumption | exact .symm ‹_› | omega) only [hF2,hF3,↓ZD,ZW,simprocAttr]
 refine CallE.pure kp ?_
 simp (disch:=first | assumption | exact .symm ‹_› | omega) only [hF2,hF3,↓ZD,ZW,simprocAttr]
 generalize hA:decide (3 < kidsI op)=A
 generalize hB:decide (0≤kidsI op)=B
 generalize hC:((kids.length:Int) != kidsI op)=C
 have har:∀ t,(A||B&&C)=t→arOk op kids.length names.length=(!t&&!(op==20&&((names.length:Int) != (kids.length:Int)))):=by rintro _ rfl;rw [← hA,← hB,← hC];rfl
 generalize hD:(A||B&&C)=D at har ⊢
 refine ⟨fun hDt=>?_,fun hDf=>?_⟩
 ·subst hDt
  refine CallE.wr [(b3,.cells #[Value.int IntKind.i64 op,Value.int IntKind.i64 v.kind,Value.bool v.bo,Value.int IntKind.i64 v.n,Value.string (bs v.tx),Value.string (bs v.ty),Value.string (bs v.id),.slice d1 d2 d3,.slice d4 d5 d6,Value.string (bs nm),Value.slice a1 kids.length c1,Value.slice an names.length cn] 31 (0,0)),(b2,.cells #[.pointer (some ⟨b,0,none⟩)] 60 (0,0))] H0 (must_wr _ b s bad false) hp (by simp +contextual) (by simp +contextual) (by simp only [List.forall_mem_cons,List.not_mem_nil,false_implies,implies_true,and_true];exact ⟨hb3,hb2⟩) ?_
  intro H1 hp1 hd1
  simp (disch:=first | assumption | exact .symm ‹_› | omega) only [↓ZD,ZW,simprocAttr]
  refine ⟨H1,by simp +contextual,?_⟩
  rw [pt,okX,har true rfl]
  simpa using hp1
 ·subst hDf
  have har:=har false rfl
  obtain ⟨bm,es,cm,Tm,fz,g1',g2,g3⟩:=hS
  obtain ⟨jm,g3⟩:=g3 op
  simp (disch:=first | assumption | exact .symm ‹_› | omega) only [hF2,hF3,g1',↓ZD,ZW,simprocAttr]
  refine EfL.get (by simp [mapEs,rdObj,g2]) g3 ?_
  have hr3:0≤kidsI op→(kids.length:Int)=kidsI op:=fun h=>by
   have h2:(A||B&&C)=false:=hD
   rw [← hB,← hC,decide_eq_true h] at h2
   simpa using (Bool.or_eq_false_iff.1 h2).2
  have hbig:¬ (op < 1∨23 < op):=fun h=>by
   have e4:kidsI op=4:=by unfold kidsI;rw [if_pos h]
   rw [e4] at hA
   have:A=true:=by rw [← hA];decide
   rw [this] at hD;simp at hD
  clear hA hB hC hD
  rcases ops_of op with ho1 | rfl | rfl | rfl | rfl | rfl | rfl | rfl | rfl | rfl | rfl | rfl | rfl | rfl | rfl | rfl | rfl | rfl | rfl | rfl | rfl | rfl | rfl | rfl | ho1
  ·exact (hbig (.inl ho1)).elim
  ·obtain rfl:kids=[]:=by
    have:=hr3 (by decide)
    rw [show kidsI 1=0 by decide] at this
    match kids,this with | [],_=>rfl
   have har:arOk 1 0 names.length=true:=by simpa using har
   rw [show isTwo 1=false from rfl,if_neg (by decide)]
   have hl2:s.length+(litT v).length≤100000000000000:=by simpa [pt,har,nodeT] using hl
   simp (disch:=first | assumption | exact .symm ‹_› | omega) only [hF2,hF3,getV,Int.reduceBEq,↓ZD,ZW,simprocAttr]
   refine wr_11 (lit_wr _ (hM.mono le_up) b s bad v (.slice d1 d2 d3) (.slice d4 d5 d6) (by omega) (by unfold SmT;omega) (by unfold SmT;omega) (by unfold SmT;omega) hn) hp hb3 hb2 fun Hw0 hpw0 hdw0_0 hdw0_1=>?_
   simp (disch:=first | assumption | exact .symm ‹_› | omega) only [hF2,hF3,Int.reduceBEq,↓ZD,ZW,simprocAttr]
   refine ⟨Hw0,by simp +contextual,?_⟩
   refine hpw0.cast ?_ ?_
   ·simp [pt,har,nodeT,isTwo,signT,methT,ptL]
   ·simp [okX,okL,har,nodeOk,litOk]
  ·obtain rfl:kids=[]:=by
    have:=hr3 (by decide)
    rw [show kidsI 2=0 by decide] at this
    match kids,this with | [],_=>rfl
   have har:arOk 2 0 names.length=true:=by simpa using har
   rw [show isTwo 2=false from rfl,if_neg (by decide)]
   have hl2:s.length+nm.length≤100000000000000:=by simpa [pt,har,nodeT] using hl
   simp (disch:=first | assumption | exact .symm ‹_› | omega) only [hF2,hF3,getV,Int.reduceBEq,↓ZD,ZW,simprocAttr]
   refine TreeL.open ?_
   simp (disch:=first | assumption | exact .symm ‹_› | omega) only [hF2,hF3,Int.reduceBEq,↓ZD,ZW,simprocAttr]
   refine new_2 fun b5 he5_0 he5_1 hb5 hF5=>?_
   simp (disch:=first | assumption | exact .symm ‹_› | omega) only [hF2,hF3,hF5,Int.reduceBEq,↓ZD,ZW,simprocAttr]
   refine CallQ.of _ (contains_pure _ (slsN (l:=varL) (b:=b5) (T:=9) (by simp [rdObj,hF5,lk,varL]) (by decide) (by decide)) nm) ?_
   simp (disch:=first | assumption | exact .symm ‹_› | omega) only [hF2,hF3,hF5,Int.reduceBEq,↓ZD,ZW,simprocAttr]
   refine wr_011 (must_wr _ b s bad _) hp hb3 hb2 fun Hw0 hpw0 hdw0_0 hdw0_1=>?_
   simp (disch:=first | assumption | exact .symm ‹_› | omega) only [hF2,hF3,hF5,Int.reduceBEq,↓ZD,ZW,simprocAttr]
   refine new_2 fun b6 he6_0 he6_1 hb6 hF6=>?_
   simp (disch:=first | assumption | exact .symm ‹_› | omega) only [hF2,hF3,hF6,Int.reduceBEq,↓ZD,ZW,simprocAttr]
   refine wr_111 (put1 _ b b6 9 (s) (nm) _ (by simp [rdObj,hF6,lk]) (by (try simp only [List.length_append,List.length_cons,List.length_nil]);omega)) hpw0 hb6 hdw0_0 hdw0_1 fun Hw1 hpw1 hdw1_0 hdw1_1 hdw1_2=>?_
   simp (disch:=first | assumption | exact .symm ‹_› | omega) only [hF2,hF3,hF6,Int.reduceBEq,↓ZD,ZW,simprocAttr]
   refine ⟨Hw1,by simp +contextual,?_⟩
   refine hpw1.cast ?_ ?_
   ·simp [pt,har,nodeT,isTwo,signT,methT,ptL]
   ·simp [okX,okL,har,nodeOk,litOk]
  ·obtain rfl:kids=[]:=by
    have:=hr3 (by decide)
    rw [show kidsI 3=0 by decide] at this
    match kids,this with | [],_=>rfl
   have har:arOk 3 0 names.length=true:=by simpa using har
   rw [show isTwo 3=false from rfl,if_neg (by decide)]
   have hl2:s.length+(1+nm.length)≤100000000000000:=by simpa [pt,har,nodeT,Nat.add_comm] using hl
   simp (disch:=first | assumption | exact .symm ‹_› | omega) only [hF2,hF3,getV,Int.reduceBEq,↓ZD,ZW,simprocAttr]
   rw [show (nm==[112,114,105,110,99,105,112,97,108]||nm==[114,101,115,111,117,114,99,101])=decide (nm∈slotL) by rw [Bool.eq_iff_iff];simp [slotL]]
   refine wr_11 (must_wr _ b s bad (decide (nm∈slotL))) hp hb3 hb2 fun Hw0 hpw0 hdw0_0 hdw0_1=>?_
   simp (disch:=first | assumption | exact .symm ‹_› | omega) only [hF2,hF3,Int.reduceBEq,↓ZD,ZW,simprocAttr]
   refine new_2 fun b5 he5_0 he5_1 hb5 hF5=>?_
   simp (disch:=first | assumption | exact .symm ‹_› | omega) only [hF2,hF3,hF5,Int.reduceBEq,↓ZD,ZW,simprocAttr]
   refine wr_111 (put2 _ b b5 9 (s) ([63]) (nm) _ (by simp [rdObj,hF5,lk]) (by (try simp only [List.length_append,List.length_cons,List.length_nil]);omega)) hpw0 hb5 hdw0_0 hdw0_1 fun Hw1 hpw1 hdw1_0 hdw1_1 hdw1_2=>?_
   simp (disch:=first | assumption | exact .symm ‹_› | omega) only [hF2,hF3,hF5,Int.reduceBEq,↓ZD,ZW,simprocAttr]
   refine ⟨Hw1,by simp +contextual,?_⟩
   refine hpw1.cast ?_ ?_
   ·simp [pt,har,nodeT,isTwo,signT,methT,ptL]
   ·simp [okX,okL,har,nodeOk,litOk]
  ·obtain ⟨x,y,rfl⟩:∃ x y,kids=[x,y]:=by
    have:=hr3 (by decide)
    rw [show kidsI 4=2 by decide] at this
    match kids,this with | [x,y],_=>exact ⟨x,y,rfl⟩
   obtain ⟨ba0,oa0,ea0,hla0⟩:=(h1 0 x rfl).ldn
   simp only [Nat.reduceMul,Nat.zero_mul,Nat.add_zero] at hla0
   obtain ⟨ba1,oa1,ea1,hla1⟩:=(h1 1 y rfl).ldn
   simp only [Nat.reduceMul,Nat.zero_mul,Nat.add_zero] at hla1
   subst ea0
   simp only [Option.some.injEq,Addr.mk.injEq,and_true] at ea1
   obtain ⟨rfl,rfl⟩:=ea1
   have har:arOk 4 2 names.length=true:=by simpa using har
   rw [show isTwo 4=true from rfl,if_pos rfl,show signT 4=[32,38,38,32] from rfl]
   simp only [wtL] at hw
   have hl2:s.length+([40]++(pt x++([32,38,38,32]++(pt y++[41])))).length≤100000000000000:=by simpa [pt,har,nodeT,isTwo,signT,methT,ptL] using hl
   simp only [List.length_append,List.length_cons,List.length_nil] at hl2
   simp (disch:=first | assumption | exact .symm ‹_› | omega) only [hF2,hF3,↓hla0,↓hla1,getV,Int.reduceBEq,↓ZD,ZW,simprocAttr]
   refine new_2 fun b5 he5_0 he5_1 hb5 hF5=>?_
   simp (disch:=first | assumption | exact .symm ‹_› | omega) only [hF2,hF3,↓hla0,↓hla1,hF5,Int.reduceBEq,↓ZD,ZW,simprocAttr]
   refine wr_111 (put1 _ b b5 9 (s) ([40]) _ (by simp [rdObj,hF5,lk]) (by (try simp only [List.length_append,List.length_cons,List.length_nil]);omega)) hp hb5 hb3 hb2 fun Hw0 hpw0 hdw0_0 hdw0_1 hdw0_2=>?_
   simp (disch:=first | assumption | exact .symm ‹_› | omega) only [hF2,hF3,↓hla0,↓hla1,hF5,Int.reduceBEq,↓ZD,ZW,simprocAttr]
   repeat (refine conj.of (by first | omega | decide) ?_;simp (disch:=first | assumption | exact .symm ‹_› | omega) only [hF2,hF3,↓hla0,↓hla1,hF5,Int.reduceBEq,↓ZD,ZW,simprocAttr])
   refine wr_011 (ih 0 x rfl _ le_up b (s++[40]) (bad) (by (try simp only [List.length_append,List.length_cons,List.length_nil]);omega)) hpw0 hdw0_1 hdw0_2 fun Hw1 hpw1 hdw1_0 hdw1_1=>?_
   simp (disch:=first | assumption | exact .symm ‹_› | omega) only [hF2,hF3,↓hla0,↓hla1,hF5,Int.reduceBEq,↓ZD,ZW,simprocAttr]
   refine new_2 fun b6 he6_0 he6_1 hb6 hF6=>?_
   simp (disch:=first | assumption | exact .symm ‹_› | omega) only [hF2,hF3,↓hla0,↓hla1,hF6,Int.reduceBEq,↓ZD,ZW,simprocAttr]
   refine wr_111 (put1 _ b b6 9 (s++[40]++pt x) ([32,38,38,32]) _ (by simp [rdObj,hF6,lk]) (by (try simp only [List.length_append,List.length_cons,List.length_nil]);omega)) hpw1 hb6 hdw1_0 hdw1_1 fun Hw2 hpw2 hdw2_0 hdw2_1 hdw2_2=>?_
   simp (disch:=first | assumption | exact .symm ‹_› | omega) only [hF2,hF3,↓hla0,↓hla1,hF6,Int.reduceBEq,↓ZD,ZW,simprocAttr]
   repeat (refine conj.of (by first | omega | decide) ?_;simp (disch:=first | assumption | exact .symm ‹_› | omega) only [hF2,hF3,↓hla0,↓hla1,hF6,Int.reduceBEq,↓ZD,ZW,simprocAttr])
   refine wr_011 (ih 1 y rfl _ le_up b (s++[40]++pt x++[32,38,38,32]) (bad||!okX x) (by (try simp only [List.length_append,List.length_cons,List.length_nil]);omega)) hpw2 hdw2_1 hdw2_2 fun Hw3 hpw3 hdw3_0 hdw3_1=>?_
   simp (disch:=first | assumption | exact .symm ‹_› | omega) only [hF2,hF3,↓hla0,↓hla1,hF6,Int.reduceBEq,↓ZD,ZW,simprocAttr]
   refine new_2 fun b7 he7_0 he7_1 hb7 hF7=>?_
   simp (disch:=first | assumption | exact .symm ‹_› | omega) only [hF2,hF3,↓hla0,↓hla1,hF7,Int.reduceBEq,↓ZD,ZW,simprocAttr]
   refine wr_111 (put1 _ b b7 9 (s++[40]++pt x++[32,38,38,32]++pt y) ([41]) _ (by simp [rdObj,hF7,lk]) (by (try simp only [List.length_append,List.length_cons,List.length_nil]);omega)) hpw3 hb7 hdw3_0 hdw3_1 fun Hw4 hpw4 hdw4_0 hdw4_1 hdw4_2=>?_
   simp (disch:=first | assumption | exact .symm ‹_› | omega) only [hF2,hF3,↓hla0,↓hla1,hF7,Int.reduceBEq,↓ZD,ZW,simprocAttr]
   refine ⟨Hw4,by simp +contextual,?_⟩
   refine hpw4.cast ?_ ?_
   ·simp [pt,har,nodeT,isTwo,signT,methT,ptL]
   ·simp [okX,okL,har,nodeOk,litOk]
    cases bad <;> cases okX x <;> cases okX y <;> rfl
  ·obtain ⟨x,y,rfl⟩:∃ x y,kids=[x,y]:=by
    have:=hr3 (by decide)
    rw [show kidsI 5=2 by decide] at this
    match kids,this with | [x,y],_=>exact ⟨x,y,rfl⟩
   obtain ⟨ba0,oa0,ea0,hla0⟩:=(h1 0 x rfl).ldn
   simp only [Nat.reduceMul,Nat.zero_mul,Nat.add_zero] at hla0
   obtain ⟨ba1,oa1,ea1,hla1⟩:=(h1 1 y rfl).ldn
   simp only [Nat.reduceMul,Nat.zero_mul,Nat.add_zero] at hla1
   subst ea0
   simp only [Option.some.injEq,Addr.mk.injEq,and_true] at ea1
   obtain ⟨rfl,rfl⟩:=ea1
   have har:arOk 5 2 names.length=true:=by simpa using har
   rw [show isTwo 5=true from rfl,if_pos rfl,show signT 5=[32,124,124,32] from rfl]
   simp only [wtL] at hw
   have hl2:s.length+([40]++(pt x++([32,124,124,32]++(pt y++[41])))).length≤100000000000000:=by simpa [pt,har,nodeT,isTwo,signT,methT,ptL] using hl
   simp only [List.length_append,List.length_cons,List.length_nil] at hl2
   simp (disch:=first | assumption | exact .symm ‹_› | omega) only [hF2,hF3,↓hla0,↓hla1,getV,Int.reduceBEq,↓ZD,ZW,simprocAttr]
   refine new_2 fun b5 he5_0 he5_1 hb5 hF5=>?_
   simp (disch:=first | assumption | exact .symm ‹_› | omega) only [hF2,hF3,↓hla0,↓hla1,hF5,Int.reduceBEq,↓ZD,ZW,simprocAttr]
   refine wr_111 (put1 _ b b5 9 (s) ([40]) _ (by simp [rdObj,hF5,lk]) (by (try simp only [List.length_append,List.length_cons,List.length_nil]);omega)) hp hb5 hb3 hb2 fun Hw0 hpw0 hdw0_0 hdw0_1 hdw0_2=>?_
   simp (disch:=first | assumption | exact .symm ‹_› | omega) only [hF2,hF3,↓hla0,↓hla1,hF5,Int.reduceBEq,↓ZD,ZW,simprocAttr]
   repeat (refine conj.of (by first | omega | decide) ?_;simp (disch:=first | assumption | exact .symm ‹_› | omega) only [hF2,hF3,↓hla0,↓hla1,hF5,Int.reduceBEq,↓ZD,ZW,simprocAttr])
   refine wr_011 (ih 0 x rfl _ le_up b (s++[40]) (bad) (by (try simp only [List.length_append,List.length_cons,List.length_nil]);omega)) hpw0 hdw0_1 hdw0_2 fun Hw1 hpw1 hdw1_0 hdw1_1=>?_
   simp (disch:=first | assumption | exact .symm ‹_› | omega) only [hF2,hF3,↓hla0,↓hla1,hF5,Int.reduceBEq,↓ZD,ZW,simprocAttr]
   refine new_2 fun b6 he6_0 he6_1 hb6 hF6=>?_
   simp (disch:=first | assumption | exact .symm ‹_› | omega) only [hF2,hF3,↓hla0,↓hla1,hF6,Int.reduceBEq,↓ZD,ZW,simprocAttr]
   refine wr_111 (put1 _ b b6 9 (s++[40]++pt x) ([32,124,124,32]) _ (by simp [rdObj,hF6,lk]) (by (try simp only [List.length_append,List.length_cons,List.length_nil]);omega)) hpw1 hb6 hdw1_0 hdw1_1 fun Hw2 hpw2 hdw2_0 hdw2_1 hdw2_2=>?_
   simp (disch:=first | assumption | exact .symm ‹_› | omega) only [hF2,hF3,↓hla0,↓hla1,hF6,Int.reduceBEq,↓ZD,ZW,simprocAttr]
   repeat (refine conj.of (by first | omega | decide) ?_;simp (disch:=first | assumption | exact .symm ‹_› | omega) only [hF2,hF3,↓hla0,↓hla1,hF6,Int.reduceBEq,↓ZD,ZW,simprocAttr])
   refine wr_011 (ih 1 y rfl _ le_up b (s++[40]++pt x++[32,124,124,32]) (bad||!okX x) (by (try simp only [List.length_append,List.length_cons,List.length_nil]);omega)) hpw2 hdw2_1 hdw2_2 fun Hw3 hpw3 hdw3_0 hdw3_1=>?_
   simp (disch:=first | assumption | exact .symm ‹_› | omega) only [hF2,hF3,↓hla0,↓hla1,hF6,Int.reduceBEq,↓ZD,ZW,simprocAttr]
   refine new_2 fun b7 he7_0 he7_1 hb7 hF7=>?_
   simp (disch:=first | assumption | exact .symm ‹_› | omega) only [hF2,hF3,↓hla0,↓hla1,hF7,Int.reduceBEq,↓ZD,ZW,simprocAttr]
   refine wr_111 (put1 _ b b7 9 (s++[40]++pt x++[32,124,124,32]++pt y) ([41]) _ (by simp [rdObj,hF7,lk]) (by (try simp only [List.length_append,List.length_cons,List.length_nil]);omega)) hpw3 hb7 hdw3_0 hdw3_1 fun Hw4 hpw4 hdw4_0 hdw4_1 hdw4_2=>?_
   simp (disch:=first | assumption | exact .symm ‹_› | omega) only [hF2,hF3,↓hla0,↓hla1,hF7,Int.reduceBEq,↓ZD,ZW,simprocAttr]
   refine ⟨Hw4,by simp +contextual,?_⟩
   refine hpw4.cast ?_ ?_
   ·simp [pt,har,nodeT,isTwo,signT,methT,ptL]
   ·simp [okX,okL,har,nodeOk,litOk]
    cases bad <;> cases okX x <;> cases okX y <;> rfl
  ·obtain ⟨x,rfl⟩:∃ x,kids=[x]:=by
    have:=hr3 (by decide)
    rw [show kidsI 6=1 by decide] at this
    match kids,this with | [x],_=>exact ⟨x,rfl⟩
   obtain ⟨ba0,oa0,ea0,hla0⟩:=(h1 0 x rfl).ldn
   simp only [Nat.reduceMul,Nat.zero_mul,Nat.add_zero] at hla0
   subst ea0
   have har:arOk 6 1 names.length=true:=by simpa using har
   rw [show isTwo 6=false from rfl,if_neg (by decide)]
   simp only [wtL] at hw
   have hl2:s.length+([33]++pt x).length≤100000000000000:=by simpa [pt,har,nodeT,isTwo,signT,methT,ptL] using hl
   simp only [List.length_append,List.length_cons,List.length_nil] at hl2
   simp (disch:=first | assumption | exact .symm ‹_› | omega) only [hF2,hF3,↓hla0,getV,Int.reduceBEq,↓ZD,ZW,simprocAttr]
   refine EfL.mkMap fun b5 hb5 hF5=>?_
   simp only [List.forall_mem_cons] at hb5
   obtain ⟨he5_0,he5_1,hb5⟩:=hb5
   have hu5:∀ o,upd H0 b5 o=H0:=fun o=>upd_new hb5
   simp (disch:=first | assumption | exact .symm ‹_› | omega) only [hF2,hF3,↓hla0,hF5,hu5,Int.reduceBEq,↓ZD,ZW,simprocAttr]
   refine EfL.ins (es:=#[]) (c:=0) hF5 (by simp [lk]) rfl ?_
   simp (disch:=first | assumption | exact .symm ‹_› | omega) only [hF2,hF3,↓hla0,hF5,hu5,Int.reduceBEq,↓ZD,ZW,simprocAttr]
   refine EfL.ins (es:=#[{ key:=.int .i64 6,val:=.string (bs [33]),born:=0 }]) (c:=1) hF5 (by simp [lk]) rfl ?_
   simp (disch:=first | assumption | exact .symm ‹_› | omega) only [hF2,hF3,↓hla0,hF5,hu5,Int.reduceBEq,↓ZD,ZW,simprocAttr]
   refine EfL.get (es:=[{ key:=.int .i64 6,val:=.string (bs [33]),born:=0 },{ key:=.int .i64 14,val:=.string (bs [45]),born:=1 }]) (by simp [mapEs,rdObj,hF5,lk]) rfl ?_
   simp (disch:=first | assumption | exact .symm ‹_› | omega) only [hF2,hF3,↓hla0,hF5,hu5,getV,Int.reduceBEq,↓ZD,ZW,simprocAttr]
   refine new_3 fun b6 he6_0 he6_1 he6_2 hb6 hF6=>?_
   simp (disch:=first | assumption | exact .symm ‹_› | omega) only [hF2,hF3,↓hla0,hF6,Int.reduceBEq,↓ZD,ZW,simprocAttr]
   refine wr_1011 (put1 _ b b6 9 (s) ([33]) _ (by simp [rdObj,hF6,lk]) (by (try simp only [List.length_append,List.length_cons,List.length_nil]);omega)) hp hb6 hb3 hb2 fun Hw0 hpw0 hdw0_0 hdw0_1 hdw0_2=>?_
   simp (disch:=first | assumption | exact .symm ‹_› | omega) only [hF2,hF3,↓hla0,hF6,Int.reduceBEq,↓ZD,ZW,simprocAttr]
   repeat (refine conj.of (by first | omega | decide) ?_;simp (disch:=first | assumption | exact .symm ‹_› | omega) only [hF2,hF3,↓hla0,hF6,Int.reduceBEq,↓ZD,ZW,simprocAttr])
   refine wr_011 (ih 0 x rfl _ le_up b (s++[33]) (bad) (by (try simp only [List.length_append,List.length_cons,List.length_nil]);omega)) hpw0 hdw0_1 hdw0_2 fun Hw1 hpw1 hdw1_0 hdw1_1=>?_
   simp (disch:=first | assumption | exact .symm ‹_› | omega) only [hF2,hF3,↓hla0,hF6,Int.reduceBEq,↓ZD,ZW,simprocAttr]
   refine ⟨Hw1,by simp +contextual,?_⟩
   refine hpw1.cast ?_ ?_
   ·simp [pt,har,nodeT,isTwo,signT,methT,ptL]
   ·simp [okX,okL,har,nodeOk,litOk]
  ·obtain ⟨x,y,z,rfl⟩:∃ x y z,kids=[x,y,z]:=by
    have:=hr3 (by decide)
    rw [show kidsI 7=3 by decide] at this
    match kids,this with | [x,y,z],_=>exact ⟨x,y,z,rfl⟩
   obtain ⟨ba0,oa0,ea0,hla0⟩:=(h1 0 x rfl).ldn
   simp only [Nat.reduceMul,Nat.zero_mul,Nat.add_zero] at hla0
   obtain ⟨ba1,oa1,ea1,hla1⟩:=(h1 1 y rfl).ldn
   simp only [Nat.reduceMul,Nat.zero_mul,Nat.add_zero] at hla1
   obtain ⟨ba2,oa2,ea2,hla2⟩:=(h1 2 z rfl).ldn
   simp only [Nat.reduceMul,Nat.zero_mul,Nat.add_zero] at hla2
   subst ea0
   simp only [Option.some.injEq,Addr.mk.injEq,and_true] at ea1
   obtain ⟨rfl,rfl⟩:=ea1
   simp only [Option.some.injEq,Addr.mk.injEq,and_true] at ea2
   obtain ⟨rfl,rfl⟩:=ea2
   have har:arOk 7 3 names.length=true:=by simpa using har
   rw [show isTwo 7=false from rfl,if_neg (by decide)]
   simp only [wtL] at hw
   have hl2:s.length+([40,105,102,32]++(pt x++([32,116,104,101,110,32]++(pt y++([32,101,108,115,101,32]++(pt z++[41])))))).length≤100000000000000:=by simpa [pt,har,nodeT,isTwo,signT,methT,ptL] using hl
   simp only [List.length_append,List.length_cons,List.length_nil] at hl2
   simp (disch:=first | assumption | exact .symm ‹_› | omega) only [hF2,hF3,↓hla0,↓hla1,↓hla2,getV,Int.reduceBEq,↓ZD,ZW,simprocAttr]
   refine new_2 fun b5 he5_0 he5_1 hb5 hF5=>?_
   simp (disch:=first | assumption | exact .symm ‹_› | omega) only [hF2,hF3,↓hla0,↓hla1,↓hla2,hF5,Int.reduceBEq,↓ZD,ZW,simprocAttr]
   refine LoopL.inv (α:=Int×Hp) (fun u=>0≤u.1∧u.1≤3∧Pst F b (s++ifT x y z u.1) (bad||!ifB x y z u.1) u.2∧(∀ e∈u.2,e.1≠b5)∧(∀ e∈u.2,e.1≠b3)∧∀ e∈u.2,e.1≠b2)
    (fun u=>[(2,some (.pointer (some ⟨b2,0,none⟩))),(3,some (.pointer (some ⟨b3,0,none⟩))),(145,some (.slice (some ⟨b5,0,none⟩) 3 3)),(146,some (.int .i64 3)),(147,some (.int .i64 u.1))])
    (fun u=>[(b5,.cells #[.string (bs [40,105,102,32]),.string (bs [32,116,104,101,110,32]),.string (bs [32,101,108,115,101,32])] 9 (0,0)),(b3,.cells #[Value.int IntKind.i64 7,Value.int IntKind.i64 v.kind,Value.bool v.bo,Value.int IntKind.i64 v.n,Value.string (bs v.tx),Value.string (bs v.ty),Value.string (bs v.id),.slice d1 d2 d3,.slice d4 d5 d6,Value.string (bs nm),Value.slice (some ⟨ba0,oa0,none⟩) 3 c1,Value.slice an names.length cn] 31 (0,0)),(b2,.cells #[.pointer (some ⟨b,0,none⟩)] 60 (0,0))]++u.2) (fun u=>(3 - u.1).toNat) (0,H0) ⟨(by decide:(0:Int)≤0),(by decide:(0:Int)≤3),by simpa [ifT,ifB] using hp,hb5,hb3,hb2⟩ (by (simp (disch:=first | assumption | exact .symm ‹_› | omega) only [↓ZD,ZW,simprocAttr];try trivial)) ?_ ?_
   ·exact ⟨by simp [lk],by simp [lk,he5_0,he5_1,hb23,Ne.symm he5_0],by simp [lk,he5_0,he5_1,hb23,Ne.symm he5_1,Ne.symm hb23],HLe_pre (Hr:=[(b5,.cells #[.string (bs [40,105,102,32]),.string (bs [32,116,104,101,110,32]),.string (bs [32,101,108,115,101,32])] 9 (0,0)),(b3,.cells #[Value.int IntKind.i64 7,Value.int IntKind.i64 v.kind,Value.bool v.bo,Value.int IntKind.i64 v.n,Value.string (bs v.tx),Value.string (bs v.ty),Value.string (bs v.id),.slice d1 d2 d3,.slice d4 d5 d6,Value.string (bs nm),Value.slice (some ⟨ba0,oa0,none⟩) 3 c1,Value.slice an names.length cn] 31 (0,0)),(b2,.cells #[.pointer (some ⟨b,0,none⟩)] 60 (0,0))]) (A:=H0) hp.lk fun e he=>by simp only [List.forall_mem_cons,List.not_mem_nil,false_implies,implies_true,and_true];exact ⟨hb5 e he,hb3 e he,hb2 e he⟩⟩
   rintro ⟨i,H⟩ ⟨hi0,hi3,hpi,hd5,hd3,hd2⟩
   simp only at hi0 hi3 hpi hd5 hd3 hd2 ⊢
   obtain rfl | rfl | rfl | rfl:i=0∨i=1∨i=2∨i=3:=by omega
   ·have hil:(ifT x y z 0).length=0:=by simp [ifT];try omega
    simp (disch:=first | assumption | exact .symm ‹_› | omega) only [hF2,hF3,↓hla0,↓hla1,↓hla2,hF5,Int.reduceBEq,↓ZD,ZW,simprocAttr]
    repeat (refine conj.of (by first | omega | decide) ?_;simp (disch:=first | assumption | exact .symm ‹_› | omega) only [hF2,hF3,↓hla0,↓hla1,↓hla2,hF5,Int.reduceBEq,↓ZD,ZW,simprocAttr])
    refine new_3 fun b6 he6_0 he6_1 he6_2 hb6 hF6=>?_
    simp (disch:=first | assumption | exact .symm ‹_› | omega) only [hF2,hF3,↓hla0,↓hla1,↓hla2,hF6,Int.reduceBEq,↓ZD,ZW,simprocAttr]
    refine wr_1111 (put1 _ b b6 9 (s++ifT x y z 0) ([40,105,102,32]) _ (by simp [rdObj,hF6,lk]) (by (try simp only [List.length_append,List.length_cons,List.length_nil]);omega)) hpi hb6 hd5 hd3 hd2 fun Hw0 hpw0 hdw0_0 hdw0_1 hdw0_2 hdw0_3=>?_
    simp (disch:=first | assumption | exact .symm ‹_› | omega) only [hF2,hF3,↓hla0,↓hla1,↓hla2,hF6,Int.reduceBEq,↓ZD,ZW,simprocAttr]
    repeat (refine conj.of (by first | omega | decide) ?_;simp (disch:=first | assumption | exact .symm ‹_› | omega) only [hF2,hF3,↓hla0,↓hla1,↓hla2,hF6,Int.reduceBEq,↓ZD,ZW,simprocAttr])
    refine wr_0111 (ih 0 x rfl _ le_up b (s++ifT x y z 0++[40,105,102,32]) (bad||!ifB x y z 0) (by (try simp only [List.length_append,List.length_cons,List.length_nil]);omega)) hpw0 hdw0_1 hdw0_2 hdw0_3 fun Hw1 hpw1 hdw1_0 hdw1_1 hdw1_2=>?_
    simp (disch:=first | assumption | exact .symm ‹_› | omega) only [hF2,hF3,↓hla0,↓hla1,↓hla2,hF6,Int.reduceBEq,↓ZD,ZW,simprocAttr]
    refine invK.on (1,Hw1) ⟨(by decide:(0:Int)≤1),(by decide:(1:Int)≤3),hpw1.cast (by simp [ifT]) (by simp [ifB];try (cases bad <;> cases okX x <;> cases okX y <;> cases okX z <;> rfl)),hdw1_0,hdw1_1,hdw1_2⟩ (by show (3 - (1:Int)).toNat < (3 - (0:Int)).toNat;decide) ?_ ?_
    ·simp only [Le_nil,Le_cons];simp (disch:=first | assumption | exact .symm ‹_› | omega) only [↓ZD,ZW,simprocAttr];try trivial
    ·exact ⟨by simp [lk],by simp [lk,he5_0,he5_1,hb23,Ne.symm he5_0],by simp [lk,he5_0,he5_1,hb23,Ne.symm he5_1,Ne.symm hb23],HLe_pre (Hr:=[(b5,.cells #[.string (bs [40,105,102,32]),.string (bs [32,116,104,101,110,32]),.string (bs [32,101,108,115,101,32])] 9 (0,0)),(b3,.cells #[Value.int IntKind.i64 7,Value.int IntKind.i64 v.kind,Value.bool v.bo,Value.int IntKind.i64 v.n,Value.string (bs v.tx),Value.string (bs v.ty),Value.string (bs v.id),.slice d1 d2 d3,.slice d4 d5 d6,Value.string (bs nm),Value.slice (some ⟨ba0,oa0,none⟩) 3 c1,Value.slice an names.length cn] 31 (0,0)),(b2,.cells #[.pointer (some ⟨b,0,none⟩)] 60 (0,0))]) (A:=Hw1) hpw1.lk fun e he=>by simp only [List.forall_mem_cons,List.not_mem_nil,false_implies,implies_true,and_true];exact ⟨hdw1_0 e he,hdw1_1 e he,hdw1_2 e he⟩⟩
   ·have hil:(ifT x y z 1).length=4+(pt x).length:=by simp [ifT];try omega
    simp (disch:=first | assumption | exact .symm ‹_› | omega) only [hF2,hF3,↓hla0,↓hla1,↓hla2,hF5,Int.reduceBEq,↓ZD,ZW,simprocAttr]
    repeat (refine conj.of (by first | omega | decide) ?_;simp (disch:=first | assumption | exact .symm ‹_› | omega) only [hF2,hF3,↓hla0,↓hla1,↓hla2,hF5,Int.reduceBEq,↓ZD,ZW,simprocAttr])
    refine new_3 fun b6 he6_0 he6_1 he6_2 hb6 hF6=>?_
    simp (disch:=first | assumption | exact .symm ‹_› | omega) only [hF2,hF3,↓hla0,↓hla1,↓hla2,hF6,Int.reduceBEq,↓ZD,ZW,simprocAttr]
    refine wr_1111 (put1 _ b b6 9 (s++ifT x y z 1) ([32,116,104,101,110,32]) _ (by simp [rdObj,hF6,lk]) (by (try simp only [List.length_append,List.length_cons,List.length_nil]);omega)) hpi hb6 hd5 hd3 hd2 fun Hw0 hpw0 hdw0_0 hdw0_1 hdw0_2 hdw0_3=>?_
    simp (disch:=first | assumption | exact .symm ‹_› | omega) only [hF2,hF3,↓hla0,↓hla1,↓hla2,hF6,Int.reduceBEq,↓ZD,ZW,simprocAttr]
    repeat (refine conj.of (by first | omega | decide) ?_;simp (disch:=first | assumption | exact .symm ‹_› | omega) only [hF2,hF3,↓hla0,↓hla1,↓hla2,hF6,Int.reduceBEq,↓ZD,ZW,simprocAttr])
    refine wr_0111 (ih 1 y rfl _ le_up b (s++ifT x y z 1++[32,116,104,101,110,32]) (bad||!ifB x y z 1) (by (try simp only [List.length_append,List.length_cons,List.length_nil]);omega)) hpw0 hdw0_1 hdw0_2 hdw0_3 fun Hw1 hpw1 hdw1_0 hdw1_1 hdw1_2=>?_
    simp (disch:=first | assumption | exact .symm ‹_› | omega) only [hF2,hF3,↓hla0,↓hla1,↓hla2,hF6,Int.reduceBEq,↓ZD,ZW,simprocAttr]
    refine invK.on (2,Hw1) ⟨(by decide:(0:Int)≤2),(by decide:(2:Int)≤3),hpw1.cast (by simp [ifT]) (by simp [ifB];try (cases bad <;> cases okX x <;> cases okX y <;> cases okX z <;> rfl)),hdw1_0,hdw1_1,hdw1_2⟩ (by show (3 - (2:Int)).toNat < (3 - (1:Int)).toNat;decide) ?_ ?_
    ·simp only [Le_nil,Le_cons];simp (disch:=first | assumption | exact .symm ‹_› | omega) only [↓ZD,ZW,simprocAttr];try trivial
    ·exact ⟨by simp [lk],by simp [lk,he5_0,he5_1,hb23,Ne.symm he5_0],by simp [lk,he5_0,he5_1,hb23,Ne.symm he5_1,Ne.symm hb23],HLe_pre (Hr:=[(b5,.cells #[.string (bs [40,105,102,32]),.string (bs [32,116,104,101,110,32]),.string (bs [32,101,108,115,101,32])] 9 (0,0)),(b3,.cells #[Value.int IntKind.i64 7,Value.int IntKind.i64 v.kind,Value.bool v.bo,Value.int IntKind.i64 v.n,Value.string (bs v.tx),Value.string (bs v.ty),Value.string (bs v.id),.slice d1 d2 d3,.slice d4 d5 d6,Value.string (bs nm),Value.slice (some ⟨ba0,oa0,none⟩) 3 c1,Value.slice an names.length cn] 31 (0,0)),(b2,.cells #[.pointer (some ⟨b,0,none⟩)] 60 (0,0))]) (A:=Hw1) hpw1.lk fun e he=>by simp only [List.forall_mem_cons,List.not_mem_nil,false_implies,implies_true,and_true];exact ⟨hdw1_0 e he,hdw1_1 e he,hdw1_2 e he⟩⟩
   ·have hil:(ifT x y z 2).length=4+(pt x).length+(6+(pt y).length):=by simp [ifT];try omega
    simp (disch:=first | assumption | exact .symm ‹_› | omega) only [hF2,hF3,↓hla0,↓hla1,↓hla2,hF5,Int.reduceBEq,↓ZD,ZW,simprocAttr]
    repeat (refine conj.of (by first | omega | decide) ?_;simp (disch:=first | assumption | exact .symm ‹_› | omega) only [hF2,hF3,↓hla0,↓hla1,↓hla2,hF5,Int.reduceBEq,↓ZD,ZW,simprocAttr])
    refine new_3 fun b6 he6_0 he6_1 he6_2 hb6 hF6=>?_
    simp (disch:=first | assumption | exact .symm ‹_› | omega) only [hF2,hF3,↓hla0,↓hla1,↓hla2,hF6,Int.reduceBEq,↓ZD,ZW,simprocAttr]
    refine wr_1111 (put1 _ b b6 9 (s++ifT x y z 2) ([32,101,108,115,101,32]) _ (by simp [rdObj,hF6,lk]) (by (try simp only [List.length_append,List.length_cons,List.length_nil]);omega)) hpi hb6 hd5 hd3 hd2 fun Hw0 hpw0 hdw0_0 hdw0_1 hdw0_2 hdw0_3=>?_
    simp (disch:=first | assumption | exact .symm ‹_› | omega) only [hF2,hF3,↓hla0,↓hla1,↓hla2,hF6,Int.reduceBEq,↓ZD,ZW,simprocAttr]
    repeat (refine conj.of (by first | omega | decide) ?_;simp (disch:=first | assumption | exact .symm ‹_› | omega) only [hF2,hF3,↓hla0,↓hla1,↓hla2,hF6,Int.reduceBEq,↓ZD,ZW,simprocAttr])
    refine wr_0111 (ih 2 z rfl _ le_up b (s++ifT x y z 2++[32,101,108,115,101,32]) (bad||!ifB x y z 2) (by (try simp only [List.length_append,List.length_cons,List.length_nil]);omega)) hpw0 hdw0_1 hdw0_2 hdw0_3 fun Hw1 hpw1 hdw1_0 hdw1_1 hdw1_2=>?_
    simp (disch:=first | assumption | exact .symm ‹_› | omega) only [hF2,hF3,↓hla0,↓hla1,↓hla2,hF6,Int.reduceBEq,↓ZD,ZW,simprocAttr]
    refine invK.on (3,Hw1) ⟨(by decide:(0:Int)≤3),(by decide:(3:Int)≤3),hpw1.cast (by simp [ifT]) (by simp [ifB];try (cases bad <;> cases okX x <;> cases okX y <;> cases okX z <;> rfl)),hdw1_0,hdw1_1,hdw1_2⟩ (by show (3 - (3:Int)).toNat < (3 - (2:Int)).toNat;decide) ?_ ?_
    ·simp only [Le_nil,Le_cons];simp (disch:=first | assumption | exact .symm ‹_› | omega) only [↓ZD,ZW,simprocAttr];try trivial
    ·exact ⟨by simp [lk],by simp [lk,he5_0,he5_1,hb23,Ne.symm he5_0],by simp [lk,he5_0,he5_1,hb23,Ne.symm he5_1,Ne.symm hb23],HLe_pre (Hr:=[(b5,.cells #[.string (bs [40,105,102,32]),.string (bs [32,116,104,101,110,32]),.string (bs [32,101,108,115,101,32])] 9 (0,0)),(b3,.cells #[Value.int IntKind.i64 7,Value.int IntKind.i64 v.kind,Value.bool v.bo,Value.int IntKind.i64 v.n,Value.string (bs v.tx),Value.string (bs v.ty),Value.string (bs v.id),.slice d1 d2 d3,.slice d4 d5 d6,Value.string (bs nm),Value.slice (some ⟨ba0,oa0,none⟩) 3 c1,Value.slice an names.length cn] 31 (0,0)),(b2,.cells #[.pointer (some ⟨b,0,none⟩)] 60 (0,0))]) (A:=Hw1) hpw1.lk fun e he=>by simp only [List.forall_mem_cons,List.not_mem_nil,false_implies,implies_true,and_true];exact ⟨hdw1_0 e he,hdw1_1 e he,hdw1_2 e he⟩⟩
   ·have hil:(ifT x y z 3).length=4+(pt x).length+(6+(pt y).length)+(6+(pt z).length):=by simp [ifT];try omega
    simp (disch:=first | assumption | exact .symm ‹_› | omega) only [hF2,hF3,↓hla0,↓hla1,↓hla2,hF5,Int.reduceBEq,↓ZD,ZW,simprocAttr]
    refine new_3 fun b6 he6_0 he6_1 he6_2 hb6 hF6=>?_
    simp (disch:=first | assumption | exact .symm ‹_› | omega) only [hF2,hF3,↓hla0,↓hla1,↓hla2,hF6,Int.reduceBEq,↓ZD,ZW,simprocAttr]
    refine wr_1011 (put1 _ b b6 9 (s++ifT x y z 3) ([41]) _ (by simp [rdObj,hF6,lk]) (by (try simp only [List.length_append,List.length_cons,List.length_nil]);omega)) hpi hb6 hd3 hd2 fun Hw0 hpw0 hdw0_0 hdw0_1 hdw0_2=>?_
    simp (disch:=first | assumption | exact .symm ‹_› | omega) only [hF2,hF3,↓hla0,↓hla1,↓hla2,hF6,Int.reduceBEq,↓ZD,ZW,simprocAttr]
    refine ⟨Hw0,by simp +contextual,?_⟩
    refine hpw0.cast ?_ ?_
    ·simp [pt,har,nodeT,isTwo,signT,methT,ptL,ifT]
    ·simp [okX,okL,har,nodeOk,litOk,ifT]
     simp [ifB]
  ·obtain ⟨x,y,rfl⟩:∃ x y,kids=[x,y]:=by
    have:=hr3 (by decide)
    rw [show kidsI 8=2 by decide] at this
    match kids,this with | [x,y],_=>exact ⟨x,y,rfl⟩
   obtain ⟨ba0,oa0,ea0,hla0⟩:=(h1 0 x rfl).ldn
   simp only [Nat.reduceMul,Nat.zero_mul,Nat.add_zero] at hla0
   obtain ⟨ba1,oa1,ea1,hla1⟩:=(h1 1 y rfl).ldn
   simp only [Nat.reduceMul,Nat.zero_mul,Nat.add_zero] at hla1
   subst ea0
   simp only [Option.some.injEq,Addr.mk.injEq,and_true] at ea1
   obtain ⟨rfl,rfl⟩:=ea1
   have har:arOk 8 2 names.length=true:=by simpa using har
   rw [show isTwo 8=true from rfl,if_pos rfl,show signT 8=[32,61,61,32] from rfl]
   simp only [wtL] at hw
   have hl2:s.length+([40]++(pt x++([32,61,61,32]++(pt y++[41])))).length≤100000000000000:=by simpa [pt,har,nodeT,isTwo,signT,methT,ptL] using hl
   simp only [List.length_append,List.length_cons,List.length_nil] at hl2
   simp (disch:=first | assumption | exact .symm ‹_› | omega) only [hF2,hF3,↓hla0,↓hla1,getV,Int.reduceBEq,↓ZD,ZW,simprocAttr]
   refine new_2 fun b5 he5_0 he5_1 hb5 hF5=>?_
   simp (disch:=first | assumption | exact .symm ‹_› | omega) only [hF2,hF3,↓hla0,↓hla1,hF5,Int.reduceBEq,↓ZD,ZW,simprocAttr]
   refine wr_111 (put1 _ b b5 9 (s) ([40]) _ (by simp [rdObj,hF5,lk]) (by (try simp only [List.length_append,List.length_cons,List.length_nil]);omega)) hp hb5 hb3 hb2 fun Hw0 hpw0 hdw0_0 hdw0_1 hdw0_2=>?_
   simp (disch:=first | assumption | exact .symm ‹_› | omega) only [hF2,hF3,↓hla0,↓hla1,hF5,Int.reduceBEq,↓ZD,ZW,simprocAttr]
   repeat (refine conj.of (by first | omega | decide) ?_;simp (disch:=first | assumption | exact .symm ‹_› | omega) only [hF2,hF3,↓hla0,↓hla1,hF5,Int.reduceBEq,↓ZD,ZW,simprocAttr])
   refine wr_011 (ih 0 x rfl _ le_up b (s++[40]) (bad) (by (try simp only [List.length_append,List.length_cons,List.length_nil]);omega)) hpw0 hdw0_1 hdw0_2 fun Hw1 hpw1 hdw1_0 hdw1_1=>?_
   simp (disch:=first | assumption | exact .symm ‹_› | omega) only [hF2,hF3,↓hla0,↓hla1,hF5,Int.reduceBEq,↓ZD,ZW,simprocAttr]
   refine new_2 fun b6 he6_0 he6_1 hb6 hF6=>?_
   simp (disch:=first | assumption | exact .symm ‹_› | omega) only [hF2,hF3,↓hla0,↓hla1,hF6,Int.reduceBEq,↓ZD,ZW,simprocAttr]
   refine wr_111 (put1 _ b b6 9 (s++[40]++pt x) ([32,61,61,32]) _ (by simp [rdObj,hF6,lk]) (by (try simp only [List.length_append,List.length_cons,List.length_nil]);omega)) hpw1 hb6 hdw1_0 hdw1_1 fun Hw2 hpw2 hdw2_0 hdw2_1 hdw2_2=>?_
   simp (disch:=first | assumption | exact .symm ‹_› | omega) only [hF2,hF3,↓hla0,↓hla1,hF6,Int.reduceBEq,↓ZD,ZW,simprocAttr]
   repeat (refine conj.of (by first | omega | decide) ?_;simp (disch:=first | assumption | exact .symm ‹_› | omega) only [hF2,hF3,↓hla0,↓hla1,hF6,Int.reduceBEq,↓ZD,ZW,simprocAttr])
   refine wr_011 (ih 1 y rfl _ le_up b (s++[40]++pt x++[32,61,61,32]) (bad||!okX x) (by (try simp only [List.length_append,List.length_cons,List.length_nil]);omega)) hpw2 hdw2_1 hdw2_2 fun Hw3 hpw3 hdw3_0 hdw3_1=>?_
   simp (disch:=first | assumption | exact .symm ‹_› | omega) only [hF2,hF3,↓hla0,↓hla1,hF6,Int.reduceBEq,↓ZD,ZW,simprocAttr]
   refine new_2 fun b7 he7_0 he7_1 hb7 hF7=>?_
   simp (disch:=first | assumption | exact .symm ‹_› | omega) only [hF2,hF3,↓hla0,↓hla1,hF7,Int.reduceBEq,↓ZD,ZW,simprocAttr]
   refine wr_111 (put1 _ b b7 9 (s++[40]++pt x++[32,61,61,32]++pt y) ([41]) _ (by simp [rdObj,hF7,lk]) (by (try simp only [List.length_append,List.length_cons,List.length_nil]);omega)) hpw3 hb7 hdw3_0 hdw3_1 fun Hw4 hpw4 hdw4_0 hdw4_1 hdw4_2=>?_
   simp (disch:=first | assumption | exact .symm ‹_› | omega) only [hF2,hF3,↓hla0,↓hla1,hF7,Int.reduceBEq,↓ZD,ZW,simprocAttr]
   refine ⟨Hw4,by simp +contextual,?_⟩
   refine hpw4.cast ?_ ?_
   ·simp [pt,har,nodeT,isTwo,signT,methT,ptL]
   ·simp [okX,okL,har,nodeOk,litOk]
    cases bad <;> cases okX x <;> cases okX y <;> rfl
  ·obtain ⟨x,y,rfl⟩:∃ x y,kids=[x,y]:=by
    have:=hr3 (by decide)
    rw [show kidsI 9=2 by decide] at this
    match kids,this with | [x,y],_=>exact ⟨x,y,rfl⟩
   obtain ⟨ba0,oa0,ea0,hla0⟩:=(h1 0 x rfl).ldn
   simp only [Nat.reduceMul,Nat.zero_mul,Nat.add_zero] at hla0
   obtain ⟨ba1,oa1,ea1,hla1⟩:=(h1 1 y rfl).ldn
   simp only [Nat.reduceMul,Nat.zero_mul,Nat.add_zero] at hla1
   subst ea0
   simp only [Option.some.injEq,Addr.mk.injEq,and_true] at ea1
   obtain ⟨rfl,rfl⟩:=ea1
   have har:arOk 9 2 names.length=true:=by simpa using har
   rw [show isTwo 9=true from rfl,if_pos rfl,show signT 9=[32,60,32] from rfl]
   simp only [wtL] at hw
   have hl2:s.length+([40]++(pt x++([32,60,32]++(pt y++[41])))).length≤100000000000000:=by simpa [pt,har,nodeT,isTwo,signT,methT,ptL] using hl
   simp only [List.length_append,List.length_cons,List.length_nil] at hl2
   simp (disch:=first | assumption | exact .symm ‹_› | omega) only [hF2,hF3,↓hla0,↓hla1,getV,Int.reduceBEq,↓ZD,ZW,simprocAttr]
   refine new_2 fun b5 he5_0 he5_1 hb5 hF5=>?_
   simp (disch:=first | assumption | exact .symm ‹_› | omega) only [hF2,hF3,↓hla0,↓hla1,hF5,Int.reduceBEq,↓ZD,ZW,simprocAttr]
   refine wr_111 (put1 _ b b5 9 (s) ([40]) _ (by simp [rdObj,hF5,lk]) (by (try simp only [List.length_append,List.length_cons,List.length_nil]);omega)) hp hb5 hb3 hb2 fun Hw0 hpw0 hdw0_0 hdw0_1 hdw0_2=>?_
   simp (disch:=first | assumption | exact .symm ‹_› | omega) only [hF2,hF3,↓hla0,↓hla1,hF5,Int.reduceBEq,↓ZD,ZW,simprocAttr]
   repeat (refine conj.of (by first | omega | decide) ?_;simp (disch:=first | assumption | exact .symm ‹_› | omega) only [hF2,hF3,↓hla0,↓hla1,hF5,Int.reduceBEq,↓ZD,ZW,simprocAttr])
   refine wr_011 (ih 0 x rfl _ le_up b (s++[40]) (bad) (by (try simp only [List.length_append,List.length_cons,List.length_nil]);omega)) hpw0 hdw0_1 hdw0_2 fun Hw1 hpw1 hdw1_0 hdw1_1=>?_
   simp (disch:=first | assumption | exact .symm ‹_› | omega) only [hF2,hF3,↓hla0,↓hla1,hF5,Int.reduceBEq,↓ZD,ZW,simprocAttr]
   refine new_2 fun b6 he6_0 he6_1 hb6 hF6=>?_
   simp (disch:=first | assumption | exact .symm ‹_› | omega) only [hF2,hF3,↓hla0,↓hla1,hF6,Int.reduceBEq,↓ZD,ZW,simprocAttr]
   refine wr_111 (put1 _ b b6 9 (s++[40]++pt x) ([32,60,32]) _ (by simp [rdObj,hF6,lk]) (by (try simp only [List.length_append,List.length_cons,List.length_nil]);omega)) hpw1 hb6 hdw1_0 hdw1_1 fun Hw2 hpw2 hdw2_0 hdw2_1 hdw2_2=>?_
   simp (disch:=first | assumption | exact .symm ‹_› | omega) only [hF2,hF3,↓hla0,↓hla1,hF6,Int.reduceBEq,↓ZD,ZW,simprocAttr]
   repeat (refine conj.of (by first | omega | decide) ?_;simp (disch:=first | assumption | exact .symm ‹_› | omega) only [hF2,hF3,↓hla0,↓hla1,hF6,Int.reduceBEq,↓ZD,ZW,simprocAttr])
   refine wr_011 (ih 1 y rfl _ le_up b (s++[40]++pt x++[32,60,32]) (bad||!okX x) (by (try simp only [List.length_append,List.length_cons,List.length_nil]);omega)) hpw2 hdw2_1 hdw2_2 fun Hw3 hpw3 hdw3_0 hdw3_1=>?_
   simp (disch:=first | assumption | exact .symm ‹_› | omega) only [hF2,hF3,↓hla0,↓hla1,hF6,Int.reduceBEq,↓ZD,ZW,simprocAttr]
   refine new_2 fun b7 he7_0 he7_1 hb7 hF7=>?_
   simp (disch:=first | assumption | exact .symm ‹_› | omega) only [hF2,hF3,↓hla0,↓hla1,hF7,Int.reduceBEq,↓ZD,ZW,simprocAttr]
   refine wr_111 (put1 _ b b7 9 (s++[40]++pt x++[32,60,32]++pt y) ([41]) _ (by simp [rdObj,hF7,lk]) (by (try simp only [List.length_append,List.length_cons,List.length_nil]);omega)) hpw3 hb7 hdw3_0 hdw3_1 fun Hw4 hpw4 hdw4_0 hdw4_1 hdw4_2=>?_
   simp (disch:=first | assumption | exact .symm ‹_› | omega) only [hF2,hF3,↓hla0,↓hla1,hF7,Int.reduceBEq,↓ZD,ZW,simprocAttr]
   refine ⟨Hw4,by simp +contextual,?_⟩
   refine hpw4.cast ?_ ?_
   ·simp [pt,har,nodeT,isTwo,signT,methT,ptL]
   ·simp [okX,okL,har,nodeOk,litOk]
    cases bad <;> cases okX x <;> cases okX y <;> rfl
  ·obtain ⟨x,y,rfl⟩:∃ x y,kids=[x,y]:=by
    have:=hr3 (by decide)
    rw [show kidsI 10=2 by decide] at this
    match kids,this with | [x,y],_=>exact ⟨x,y,rfl⟩
   obtain ⟨ba0,oa0,ea0,hla0⟩:=(h1 0 x rfl).ldn
   simp only [Nat.reduceMul,Nat.zero_mul,Nat.add_zero] at hla0
   obtain ⟨ba1,oa1,ea1,hla1⟩:=(h1 1 y rfl).ldn
   simp only [Nat.reduceMul,Nat.zero_mul,Nat.add_zero] at hla1
   subst ea0
   simp only [Option.some.injEq,Addr.mk.injEq,and_true] at ea1
   obtain ⟨rfl,rfl⟩:=ea1
   have har:arOk 10 2 names.length=true:=by simpa using har
   rw [show isTwo 10=true from rfl,if_pos rfl,show signT 10=[32,60,61,32] from rfl]
   simp only [wtL] at hw
   have hl2:s.length+([40]++(pt x++([32,60,61,32]++(pt y++[41])))).length≤100000000000000:=by simpa [pt,har,nodeT,isTwo,signT,methT,ptL] using hl
   simp only [List.length_append,List.length_cons,List.length_nil] at hl2
   simp (disch:=first | assumption | exact .symm ‹_› | omega) only [hF2,hF3,↓hla0,↓hla1,getV,Int.reduceBEq,↓ZD,ZW,simprocAttr]
   refine new_2 fun b5 he5_0 he5_1 hb5 hF5=>?_
   simp (disch:=first | assumption | exact .symm ‹_› | omega) only [hF2,hF3,↓hla0,↓hla1,hF5,Int.reduceBEq,↓ZD,ZW,simprocAttr]
   refine wr_111 (put1 _ b b5 9 (s) ([40]) _ (by simp [rdObj,hF5,lk]) (by (try simp only [List.length_append,List.length_cons,List.length_nil]);omega)) hp hb5 hb3 hb2 fun Hw0 hpw0 hdw0_0 hdw0_1 hdw0_2=>?_
   simp (disch:=first | assumption | exact .symm ‹_› | omega) only [hF2,hF3,↓hla0,↓hla1,hF5,Int.reduceBEq,↓ZD,ZW,simprocAttr]
   repeat (refine conj.of (by first | omega | decide) ?_;simp (disch:=first | assumption | exact .symm ‹_› | omega) only [hF2,hF3,↓hla0,↓hla1,hF5,Int.reduceBEq,↓ZD,ZW,simprocAttr])
   refine wr_011 (ih 0 x rfl _ le_up b (s++[40]) (bad) (by (try simp only [List.length_append,List.length_cons,List.length_nil]);omega)) hpw0 hdw0_1 hdw0_2 fun Hw1 hpw1 hdw1_0 hdw1_1=>?_
   simp (disch:=first | assumption | exact .symm ‹_› | omega) only [hF2,hF3,↓hla0,↓hla1,hF5,Int.reduceBEq,↓ZD,ZW,simprocAttr]
   refine new_2 fun b6 he6_0 he6_1 hb6 hF6=>?_
   simp (disch:=first | assumption | exact .symm ‹_› | omega) only [hF2,hF3,↓hla0,↓hla1,hF6,Int.reduceBEq,↓ZD,ZW,simprocAttr]
   refine wr_111 (put1 _ b b6 9 (s++[40]++pt x) ([32,60,61,32]) _ (by simp [rdObj,hF6,lk]) (by (try simp only [List.length_append,List.length_cons,List.length_nil]);omega)) hpw1 hb6 hdw1_0 hdw1_1 fun Hw2 hpw2 hdw2_0 hdw2_1 hdw2_2=>?_
   simp (disch:=first | assumption | exact .symm ‹_› | omega) only [hF2,hF3,↓hla0,↓hla1,hF6,Int.reduceBEq,↓ZD,ZW,simprocAttr]
   repeat (refine conj.of (by first | omega | decide) ?_;simp (disch:=first | assumption | exact .symm ‹_› | omega) only [hF2,hF3,↓hla0,↓hla1,hF6,Int.reduceBEq,↓ZD,ZW,simprocAttr])
   refine wr_011 (ih 1 y rfl _ le_up b (s++[40]++pt x++[32,60,61,32]) (bad||!okX x) (by (try simp only [List.length_append,List.length_cons,List.length_nil]);omega)) hpw2 hdw2_1 hdw2_2 fun Hw3 hpw3 hdw3_0 hdw3_1=>?_
   simp (disch:=first | assumption | exact .symm ‹_› | omega) only [hF2,hF3,↓hla0,↓hla1,hF6,Int.reduceBEq,↓ZD,ZW,simprocAttr]
   refine new_2 fun b7 he7_0 he7_1 hb7 hF7=>?_
   simp (disch:=first | assumption | exact .symm ‹_› | omega) only [hF2,hF3,↓hla0,↓hla1,hF7,Int.reduceBEq,↓ZD,ZW,simprocAttr]
   refine wr_111 (put1 _ b b7 9 (s++[40]++pt x++[32,60,61,32]++pt y) ([41]) _ (by simp [rdObj,hF7,lk]) (by (try simp only [List.length_append,List.length_cons,List.length_nil]);omega)) hpw3 hb7 hdw3_0 hdw3_1 fun Hw4 hpw4 hdw4_0 hdw4_1 hdw4_2=>?_
   simp (disch:=first | assumption | exact .symm ‹_› | omega) only [hF2,hF3,↓hla0,↓hla1,hF7,Int.reduceBEq,↓ZD,ZW,simprocAttr]
   refine ⟨Hw4,by simp +contextual,?_⟩
   refine hpw4.cast ?_ ?_
   ·simp [pt,har,nodeT,isTwo,signT,methT,ptL]
   ·simp [okX,okL,har,nodeOk,litOk]
    cases bad <;> cases okX x <;> cases okX y <;> rfl
  ·obtain ⟨x,y,rfl⟩:∃ x y,kids=[x,y]:=by
    have:=hr3 (by decide)
    rw [show kidsI 11=2 by decide] at this
    match kids,this with | [x,y],_=>exact ⟨x,y,rfl⟩
   obtain ⟨ba0,oa0,ea0,hla0⟩:=(h1 0 x rfl).ldn
   simp only [Nat.reduceMul,Nat.zero_mul,Nat.add_zero] at hla0
   obtain ⟨ba1,oa1,ea1,hla1⟩:=(h1 1 y rfl).ldn
   simp only [Nat.reduceMul,Nat.zero_mul,Nat.add_zero] at hla1
   subst ea0
   simp only [Option.some.injEq,Addr.mk.injEq,and_true] at ea1
   obtain ⟨rfl,rfl⟩:=ea1
   have har:arOk 11 2 names.length=true:=by simpa using har
   rw [show isTwo 11=true from rfl,if_pos rfl,show signT 11=[32,43,32] from rfl]
   simp only [wtL] at hw
   have hl2:s.length+([40]++(pt x++([32,43,32]++(pt y++[41])))).length≤100000000000000:=by simpa [pt,har,nodeT,isTwo,signT,methT,ptL] using hl
   simp only [List.length_append,List.length_cons,List.length_nil] at hl2
   simp (disch:=first | assumption | exact .symm ‹_› | omega) only [hF2,hF3,↓hla0,↓hla1,getV,Int.reduceBEq,↓ZD,ZW,simprocAttr]
   refine new_2 fun b5 he5_0 he5_1 hb5 hF5=>?_
   simp (disch:=first | assumption | exact .symm ‹_› | omega) only [hF2,hF3,↓hla0,↓hla1,hF5,Int.reduceBEq,↓ZD,ZW,simprocAttr]
   refine wr_111 (put1 _ b b5 9 (s) ([40]) _ (by simp [rdObj,hF5,lk]) (by (try simp only [List.length_append,List.length_cons,List.length_nil]);omega)) hp hb5 hb3 hb2 fun Hw0 hpw0 hdw0_0 hdw0_1 hdw0_2=>?_
   simp (disch:=first | assumption | exact .symm ‹_› | omega) only [hF2,hF3,↓hla0,↓hla1,hF5,Int.reduceBEq,↓ZD,ZW,simprocAttr]
   repeat (refine conj.of (by first | omega | decide) ?_;simp (disch:=first | assumption | exact .symm ‹_› | omega) only [hF2,hF3,↓hla0,↓hla1,hF5,Int.reduceBEq,↓ZD,ZW,simprocAttr])
   refine wr_011 (ih 0 x rfl _ le_up b (s++[40]) (bad) (by (try simp only [List.length_append,List.length_cons,List.length_nil]);omega)) hpw0 hdw0_1 hdw0_2 fun Hw1 hpw1 hdw1_0 hdw1_1=>?_
   simp (disch:=first | assumption | exact .symm ‹_› | omega) only [hF2,hF3,↓hla0,↓hla1,hF5,Int.reduceBEq,↓ZD,ZW,simprocAttr]
   refine new_2 fun b6 he6_0 he6_1 hb6 hF6=>?_
   simp (disch:=first | assumption | exact .symm ‹_› | omega) only [hF2,hF3,↓hla0,↓hla1,hF6,Int.reduceBEq,↓ZD,ZW,simprocAttr]
   refine wr_111 (put1 _ b b6 9 (s++[40]++pt x) ([32,43,32]) _ (by simp [rdObj,hF6,lk]) (by (try simp only [List.length_append,List.length_cons,List.length_nil]);omega)) hpw1 hb6 hdw1_0 hdw1_1 fun Hw2 hpw2 hdw2_0 hdw2_1 hdw2_2=>?_
   simp (disch:=first | assumption | exact .symm ‹_› | omega) only [hF2,hF3,↓hla0,↓hla1,hF6,Int.reduceBEq,↓ZD,ZW,simprocAttr]
   repeat (refine conj.of (by first | omega | decide) ?_;simp (disch:=first | assumption | exact .symm ‹_› | omega) only [hF2,hF3,↓hla0,↓hla1,hF6,Int.reduceBEq,↓ZD,ZW,simprocAttr])
   refine wr_011 (ih 1 y rfl _ le_up b (s++[40]++pt x++[32,43,32]) (bad||!okX x) (by (try simp only [List.length_append,List.length_cons,List.length_nil]);omega)) hpw2 hdw2_1 hdw2_2 fun Hw3 hpw3 hdw3_0 hdw3_1=>?_
   simp (disch:=first | assumption | exact .symm ‹_› | omega) only [hF2,hF3,↓hla0,↓hla1,hF6,Int.reduceBEq,↓ZD,ZW,simprocAttr]
   refine new_2 fun b7 he7_0 he7_1 hb7 hF7=>?_
   simp (disch:=first | assumption | exact .symm ‹_› | omega) only [hF2,hF3,↓hla0,↓hla1,hF7,Int.reduceBEq,↓ZD,ZW,simprocAttr]
   refine wr_111 (put1 _ b b7 9 (s++[40]++pt x++[32,43,32]++pt y) ([41]) _ (by simp [rdObj,hF7,lk]) (by (try simp only [List.length_append,List.length_cons,List.length_nil]);omega)) hpw3 hb7 hdw3_0 hdw3_1 fun Hw4 hpw4 hdw4_0 hdw4_1 hdw4_2=>?_
   simp (disch:=first | assumption | exact .symm ‹_› | omega) only [hF2,hF3,↓hla0,↓hla1,hF7,Int.reduceBEq,↓ZD,ZW,simprocAttr]
   refine ⟨Hw4,by simp +contextual,?_⟩
   refine hpw4.cast ?_ ?_
   ·simp [pt,har,nodeT,isTwo,signT,methT,ptL]
   ·simp [okX,okL,har,nodeOk,litOk]
    cases bad <;> cases okX x <;> cases okX y <;> rfl
  ·obtain ⟨x,y,rfl⟩:∃ x y,kids=[x,y]:=by
    have:=hr3 (by decide)
    rw [show kidsI 12=2 by decide] at this
    match kids,this with | [x,y],_=>exact ⟨x,y,rfl⟩
   obtain ⟨ba0,oa0,ea0,hla0⟩:=(h1 0 x rfl).ldn
   simp only [Nat.reduceMul,Nat.zero_mul,Nat.add_zero] at hla0
   obtain ⟨ba1,oa1,ea1,hla1⟩:=(h1 1 y rfl).ldn
   simp only [Nat.reduceMul,Nat.zero_mul,Nat.add_zero] at hla1
   subst ea0
   simp only [Option.some.injEq,Addr.mk.injEq,and_true] at ea1
   obtain ⟨rfl,rfl⟩:=ea1
   have har:arOk 12 2 names.length=true:=by simpa using har
   rw [show isTwo 12=true from rfl,if_pos rfl,show signT 12=[32,45,32] from rfl]
   simp only [wtL] at hw
   have hl2:s.length+([40]++(pt x++([32,45,32]++(pt y++[41])))).length≤100000000000000:=by simpa [pt,har,nodeT,isTwo,signT,methT,ptL] using hl
   simp only [List.length_append,List.length_cons,List.length_nil] at hl2
   simp (disch:=first | assumption | exact .symm ‹_› | omega) only [hF2,hF3,↓hla0,↓hla1,getV,Int.reduceBEq,↓ZD,ZW,simprocAttr]
   refine new_2 fun b5 he5_0 he5_1 hb5 hF5=>?_
   simp (disch:=first | assumption | exact .symm ‹_› | omega) only [hF2,hF3,↓hla0,↓hla1,hF5,Int.reduceBEq,↓ZD,ZW,simprocAttr]
   refine wr_111 (put1 _ b b5 9 (s) ([40]) _ (by simp [rdObj,hF5,lk]) (by (try simp only [List.length_append,List.length_cons,List.length_nil]);omega)) hp hb5 hb3 hb2 fun Hw0 hpw0 hdw0_0 hdw0_1 hdw0_2=>?_
   simp (disch:=first | assumption | exact .symm ‹_› | omega) only [hF2,hF3,↓hla0,↓hla1,hF5,Int.reduceBEq,↓ZD,ZW,simprocAttr]
   repeat (refine conj.of (by first | omega | decide) ?_;simp (disch:=first | assumption | exact .symm ‹_› | omega) only [hF2,hF3,↓hla0,↓hla1,hF5,Int.reduceBEq,↓ZD,ZW,simprocAttr])
   refine wr_011 (ih 0 x rfl _ le_up b (s++[40]) (bad) (by (try simp only [List.length_append,List.length_cons,List.length_nil]);omega)) hpw0 hdw0_1 hdw0_2 fun Hw1 hpw1 hdw1_0 hdw1_1=>?_
   simp (disch:=first | assumption | exact .symm ‹_› | omega) only [hF2,hF3,↓hla0,↓hla1,hF5,Int.reduceBEq,↓ZD,ZW,simprocAttr]
   refine new_2 fun b6 he6_0 he6_1 hb6 hF6=>?_
   simp (disch:=first | assumption | exact .symm ‹_› | omega) only [hF2,hF3,↓hla0,↓hla1,hF6,Int.reduceBEq,↓ZD,ZW,simprocAttr]
   refine wr_111 (put1 _ b b6 9 (s++[40]++pt x) ([32,45,32]) _ (by simp [rdObj,hF6,lk]) (by (try simp only [List.length_append,List.length_cons,List.length_nil]);omega)) hpw1 hb6 hdw1_0 hdw1_1 fun Hw2 hpw2 hdw2_0 hdw2_1 hdw2_2=>?_
   simp (disch:=first | assumption | exact .symm ‹_› | omega) only [hF2,hF3,↓hla0,↓hla1,hF6,Int.reduceBEq,↓ZD,ZW,simprocAttr]
   repeat (refine conj.of (by first | omega | decide) ?_;simp (disch:=first | assumption | exact .symm ‹_› | omega) only [hF2,hF3,↓hla0,↓hla1,hF6,Int.reduceBEq,↓ZD,ZW,simprocAttr])
   refine wr_011 (ih 1 y rfl _ le_up b (s++[40]++pt x++[32,45,32]) (bad||!okX x) (by (try simp only [List.length_append,List.length_cons,List.length_nil]);omega)) hpw2 hdw2_1 hdw2_2 fun Hw3 hpw3 hdw3_0 hdw3_1=>?_
   simp (disch:=first | assumption | exact .symm ‹_› | omega) only [hF2,hF3,↓hla0,↓hla1,hF6,Int.reduceBEq,↓ZD,ZW,simprocAttr]
   refine new_2 fun b7 he7_0 he7_1 hb7 hF7=>?_
   simp (disch:=first | assumption | exact .symm ‹_› | omega) only [hF2,hF3,↓hla0,↓hla1,hF7,Int.reduceBEq,↓ZD,ZW,simprocAttr]
   refine wr_111 (put1 _ b b7 9 (s++[40]++pt x++[32,45,32]++pt y) ([41]) _ (by simp [rdObj,hF7,lk]) (by (try simp only [List.length_append,List.length_cons,List.length_nil]);omega)) hpw3 hb7 hdw3_0 hdw3_1 fun Hw4 hpw4 hdw4_0 hdw4_1 hdw4_2=>?_
   simp (disch:=first | assumption | exact .symm ‹_› | omega) only [hF2,hF3,↓hla0,↓hla1,hF7,Int.reduceBEq,↓ZD,ZW,simprocAttr]
   refine ⟨Hw4,by simp +contextual,?_⟩
   refine hpw4.cast ?_ ?_
   ·simp [pt,har,nodeT,isTwo,signT,methT,ptL]
   ·simp [okX,okL,har,nodeOk,litOk]
    cases bad <;> cases okX x <;> cases okX y <;> rfl
  ·obtain ⟨x,y,rfl⟩:∃ x y,kids=[x,y]:=by
    have:=hr3 (by decide)
    rw [show kidsI 13=2 by decide] at this
    match kids,this with | [x,y],_=>exact ⟨x,y,rfl⟩
   obtain ⟨ba0,oa0,ea0,hla0⟩:=(h1 0 x rfl).ldn
   simp only [Nat.reduceMul,Nat.zero_mul,Nat.add_zero] at hla0
   obtain ⟨ba1,oa1,ea1,hla1⟩:=(h1 1 y rfl).ldn
   simp only [Nat.reduceMul,Nat.zero_mul,Nat.add_zero] at hla1
   subst ea0
   simp only [Option.some.injEq,Addr.mk.injEq,and_true] at ea1
   obtain ⟨rfl,rfl⟩:=ea1
   have har:arOk 13 2 names.length=true:=by simpa using har
   rw [show isTwo 13=true from rfl,if_pos rfl,show signT 13=[32,42,32] from rfl]
   simp only [wtL] at hw
   have hl2:s.length+([40]++(pt x++([32,42,32]++(pt y++[41])))).length≤100000000000000:=by simpa [pt,har,nodeT,isTwo,signT,methT,ptL] using hl
   simp only [List.length_append,List.length_cons,List.length_nil] at hl2
   simp (disch:=first | assumption | exact .symm ‹_› | omega) only [hF2,hF3,↓hla0,↓hla1,getV,Int.reduceBEq,↓ZD,ZW,simprocAttr]
   refine new_2 fun b5 he5_0 he5_1 hb5 hF5=>?_
   simp (disch:=first | assumption | exact .symm ‹_› | omega) only [hF2,hF3,↓hla0,↓hla1,hF5,Int.reduceBEq,↓ZD,ZW,simprocAttr]
   refine wr_111 (put1 _ b b5 9 (s) ([40]) _ (by simp [rdObj,hF5,lk]) (by (try simp only [List.length_append,List.length_cons,List.length_nil]);omega)) hp hb5 hb3 hb2 fun Hw0 hpw0 hdw0_0 hdw0_1 hdw0_2=>?_
   simp (disch:=first | assumption | exact .symm ‹_› | omega) only [hF2,hF3,↓hla0,↓hla1,hF5,Int.reduceBEq,↓ZD,ZW,simprocAttr]
   repeat (refine conj.of (by first | omega | decide) ?_;simp (disch:=first | assumption | exact .symm ‹_› | omega) only [hF2,hF3,↓hla0,↓hla1,hF5,Int.reduceBEq,↓ZD,ZW,simprocAttr])
   refine wr_011 (ih 0 x rfl _ le_up b (s++[40]) (bad) (by (try simp only [List.length_append,List.length_cons,List.length_nil]);omega)) hpw0 hdw0_1 hdw0_2 fun Hw1 hpw1 hdw1_0 hdw1_1=>?_
   simp (disch:=first | assumption | exact .symm ‹_› | omega) only [hF2,hF3,↓hla0,↓hla1,hF5,Int.reduceBEq,↓ZD,ZW,simprocAttr]
   refine new_2 fun b6 he6_0 he6_1 hb6 hF6=>?_
   simp (disch:=first | assumption | exact .symm ‹_› | omega) only [hF2,hF3,↓hla0,↓hla1,hF6,Int.reduceBEq,↓ZD,ZW,simprocAttr]
   refine wr_111 (put1 _ b b6 9 (s++[40]++pt x) ([32,42,32]) _ (by simp [rdObj,hF6,lk]) (by (try simp only [List.length_append,List.length_cons,List.length_nil]);omega)) hpw1 hb6 hdw1_0 hdw1_1 fun Hw2 hpw2 hdw2_0 hdw2_1 hdw2_2=>?_
   simp (disch:=first | assumption | exact .symm ‹_› | omega) only [hF2,hF3,↓hla0,↓hla1,hF6,Int.reduceBEq,↓ZD,ZW,simprocAttr]
   repeat (refine conj.of (by first | omega | decide) ?_;simp (disch:=first | assumption | exact .symm ‹_› | omega) only [hF2,hF3,↓hla0,↓hla1,hF6,Int.reduceBEq,↓ZD,ZW,simprocAttr])
   refine wr_011 (ih 1 y rfl _ le_up b (s++[40]++pt x++[32,42,32]) (bad||!okX x) (by (try simp only [List.length_append,List.length_cons,List.length_nil]);omega)) hpw2 hdw2_1 hdw2_2 fun Hw3 hpw3 hdw3_0 hdw3_1=>?_
   simp (disch:=first | assumption | exact .symm ‹_› | omega) only [hF2,hF3,↓hla0,↓hla1,hF6,Int.reduceBEq,↓ZD,ZW,simprocAttr]
   refine new_2 fun b7 he7_0 he7_1 hb7 hF7=>?_
   simp (disch:=first | assumption | exact .symm ‹_› | omega) only [hF2,hF3,↓hla0,↓hla1,hF7,Int.reduceBEq,↓ZD,ZW,simprocAttr]
   refine wr_111 (put1 _ b b7 9 (s++[40]++pt x++[32,42,32]++pt y) ([41]) _ (by simp [rdObj,hF7,lk]) (by (try simp only [List.length_append,List.length_cons,List.length_nil]);omega)) hpw3 hb7 hdw3_0 hdw3_1 fun Hw4 hpw4 hdw4_0 hdw4_1 hdw4_2=>?_
   simp (disch:=first | assumption | exact .symm ‹_› | omega) only [hF2,hF3,↓hla0,↓hla1,hF7,Int.reduceBEq,↓ZD,ZW,simprocAttr]
   refine ⟨Hw4,by simp +contextual,?_⟩
   refine hpw4.cast ?_ ?_
   ·simp [pt,har,nodeT,isTwo,signT,methT,ptL]
   ·simp [okX,okL,har,nodeOk,litOk]
    cases bad <;> cases okX x <;> cases okX y <;> rfl
  ·obtain ⟨x,rfl⟩:∃ x,kids=[x]:=by
    have:=hr3 (by decide)
    rw [show kidsI 14=1 by decide] at this
    match kids,this with | [x],_=>exact ⟨x,rfl⟩
   obtain ⟨ba0,oa0,ea0,hla0⟩:=(h1 0 x rfl).ldn
   simp only [Nat.reduceMul,Nat.zero_mul,Nat.add_zero] at hla0
   subst ea0
   have har:arOk 14 1 names.length=true:=by simpa using har
   rw [show isTwo 14=false from rfl,if_neg (by decide)]
   simp only [wtL] at hw
   have hl2:s.length+([45]++pt x).length≤100000000000000:=by simpa [pt,har,nodeT,isTwo,signT,methT,ptL] using hl
   simp only [List.length_append,List.length_cons,List.length_nil] at hl2
   simp (disch:=first | assumption | exact .symm ‹_› | omega) only [hF2,hF3,↓hla0,getV,Int.reduceBEq,↓ZD,ZW,simprocAttr]
   refine EfL.mkMap fun b5 hb5 hF5=>?_
   simp only [List.forall_mem_cons] at hb5
   obtain ⟨he5_0,he5_1,hb5⟩:=hb5
   have hu5:∀ o,upd H0 b5 o=H0:=fun o=>upd_new hb5
   simp (disch:=first | assumption | exact .symm ‹_› | omega) only [hF2,hF3,↓hla0,hF5,hu5,Int.reduceBEq,↓ZD,ZW,simprocAttr]
   refine EfL.ins (es:=#[]) (c:=0) hF5 (by simp [lk]) rfl ?_
   simp (disch:=first | assumption | exact .symm ‹_› | omega) only [hF2,hF3,↓hla0,hF5,hu5,Int.reduceBEq,↓ZD,ZW,simprocAttr]
   refine EfL.ins (es:=#[{ key:=.int .i64 6,val:=.string (bs [33]),born:=0 }]) (c:=1) hF5 (by simp [lk]) rfl ?_
   simp (disch:=first | assumption | exact .symm ‹_› | omega) only [hF2,hF3,↓hla0,hF5,hu5,Int.reduceBEq,↓ZD,ZW,simprocAttr]
   refine EfL.get (es:=[{ key:=.int .i64 6,val:=.string (bs [33]),born:=0 },{ key:=.int .i64 14,val:=.string (bs [45]),born:=1 }]) (by simp [mapEs,rdObj,hF5,lk]) rfl ?_
   simp (disch:=first | assumption | exact .symm ‹_› | omega) only [hF2,hF3,↓hla0,hF5,hu5,getV,Int.reduceBEq,↓ZD,ZW,simprocAttr]
   refine new_3 fun b6 he6_0 he6_1 he6_2 hb6 hF6=>?_
   simp (disch:=first | assumption | exact .symm ‹_› | omega) only [hF2,hF3,↓hla0,hF6,Int.reduceBEq,↓ZD,ZW,simprocAttr]
   refine wr_1011 (put1 _ b b6 9 (s) ([45]) _ (by simp [rdObj,hF6,lk]) (by (try simp only [List.length_append,List.length_cons,List.length_nil]);omega)) hp hb6 hb3 hb2 fun Hw0 hpw0 hdw0_0 hdw0_1 hdw0_2=>?_
   simp (disch:=first | assumption | exact .symm ‹_› | omega) only [hF2,hF3,↓hla0,hF6,Int.reduceBEq,↓ZD,ZW,simprocAttr]
   repeat (refine conj.of (by first | omega | decide) ?_;simp (disch:=first | assumption | exact .symm ‹_› | omega) only [hF2,hF3,↓hla0,hF6,Int.reduceBEq,↓ZD,ZW,simprocAttr])
   refine wr_011 (ih 0 x rfl _ le_up b (s++[45]) (bad) (by (try simp only [List.length_append,List.length_cons,List.length_nil]);omega)) hpw0 hdw0_1 hdw0_2 fun Hw1 hpw1 hdw1_0 hdw1_1=>?_
   simp (disch:=first | assumption | exact .symm ‹_› | omega) only [hF2,hF3,↓hla0,hF6,Int.reduceBEq,↓ZD,ZW,simprocAttr]
   refine ⟨Hw1,by simp +contextual,?_⟩
   refine hpw1.cast ?_ ?_
   ·simp [pt,har,nodeT,isTwo,signT,methT,ptL]
   ·simp [okX,okL,har,nodeOk,litOk]
  ·obtain ⟨x,y,rfl⟩:∃ x y,kids=[x,y]:=by
    have:=hr3 (by decide)
    rw [show kidsI 15=2 by decide] at this
    match kids,this with | [x,y],_=>exact ⟨x,y,rfl⟩
   obtain ⟨ba0,oa0,ea0,hla0⟩:=(h1 0 x rfl).ldn
   simp only [Nat.reduceMul,Nat.zero_mul,Nat.add_zero] at hla0
   obtain ⟨ba1,oa1,ea1,hla1⟩:=(h1 1 y rfl).ldn
   simp only [Nat.reduceMul,Nat.zero_mul,Nat.add_zero] at hla1
   subst ea0
   simp only [Option.some.injEq,Addr.mk.injEq,and_true] at ea1
   obtain ⟨rfl,rfl⟩:=ea1
   have har:arOk 15 2 names.length=true:=by simpa using har
   rw [show isTwo 15=true from rfl,if_pos rfl,show signT 15=[32,105,110,32] from rfl]
   simp only [wtL] at hw
   have hl2:s.length+([40]++(pt x++([32,105,110,32]++(pt y++[41])))).length≤100000000000000:=by simpa [pt,har,nodeT,isTwo,signT,methT,ptL] using hl
   simp only [List.length_append,List.length_cons,List.length_nil] at hl2
   simp (disch:=first | assumption | exact .symm ‹_› | omega) only [hF2,hF3,↓hla0,↓hla1,getV,Int.reduceBEq,↓ZD,ZW,simprocAttr]
   refine new_2 fun b5 he5_0 he5_1 hb5 hF5=>?_
   simp (disch:=first | assumption | exact .symm ‹_› | omega) only [hF2,hF3,↓hla0,↓hla1,hF5,Int.reduceBEq,↓ZD,ZW,simprocAttr]
   refine wr_111 (put1 _ b b5 9 (s) ([40]) _ (by simp [rdObj,hF5,lk]) (by (try simp only [List.length_append,List.length_cons,List.length_nil]);omega)) hp hb5 hb3 hb2 fun Hw0 hpw0 hdw0_0 hdw0_1 hdw0_2=>?_
   simp (disch:=first | assumption | exact .symm ‹_› | omega) only [hF2,hF3,↓hla0,↓hla1,hF5,Int.reduceBEq,↓ZD,ZW,simprocAttr]
   repeat (refine conj.of (by first | omega | decide) ?_;simp (disch:=first | assumption | exact .symm ‹_› | omega) only [hF2,hF3,↓hla0,↓hla1,hF5,Int.reduceBEq,↓ZD,ZW,simprocAttr])
   refine wr_011 (ih 0 x rfl _ le_up b (s++[40]) (bad) (by (try simp only [List.length_append,List.length_cons,List.length_nil]);omega)) hpw0 hdw0_1 hdw0_2 fun Hw1 hpw1 hdw1_0 hdw1_1=>?_
   simp (disch:=first | assumption | exact .symm ‹_› | omega) only [hF2,hF3,↓hla0,↓hla1,hF5,Int.reduceBEq,↓ZD,ZW,simprocAttr]
   refine new_2 fun b6 he6_0 he6_1 hb6 hF6=>?_
   simp (disch:=first | assumption | exact .symm ‹_› | omega) only [hF2,hF3,↓hla0,↓hla1,hF6,Int.reduceBEq,↓ZD,ZW,simprocAttr]
   refine wr_111 (put1 _ b b6 9 (s++[40]++pt x) ([32,105,110,32]) _ (by simp [rdObj,hF6,lk]) (by (try simp only [List.length_append,List.length_cons,List.length_nil]);omega)) hpw1 hb6 hdw1_0 hdw1_1 fun Hw2 hpw2 hdw2_0 hdw2_1 hdw2_2=>?_
   simp (disch:=first | assumption | exact .symm ‹_› | omega) only [hF2,hF3,↓hla0,↓hla1,hF6,Int.reduceBEq,↓ZD,ZW,simprocAttr]
   repeat (refine conj.of (by first | omega | decide) ?_;simp (disch:=first | assumption | exact .symm ‹_› | omega) only [hF2,hF3,↓hla0,↓hla1,hF6,Int.reduceBEq,↓ZD,ZW,simprocAttr])
   refine wr_011 (ih 1 y rfl _ le_up b (s++[40]++pt x++[32,105,110,32]) (bad||!okX x) (by (try simp only [List.length_append,List.length_cons,List.length_nil]);omega)) hpw2 hdw2_1 hdw2_2 fun Hw3 hpw3 hdw3_0 hdw3_1=>?_
   simp (disch:=first | assumption | exact .symm ‹_› | omega) only [hF2,hF3,↓hla0,↓hla1,hF6,Int.reduceBEq,↓ZD,ZW,simprocAttr]
   refine new_2 fun b7 he7_0 he7_1 hb7 hF7=>?_
   simp (disch:=first | assumption | exact .symm ‹_› | omega) only [hF2,hF3,↓hla0,↓hla1,hF7,Int.reduceBEq,↓ZD,ZW,simprocAttr]
   refine wr_111 (put1 _ b b7 9 (s++[40]++pt x++[32,105,110,32]++pt y) ([41]) _ (by simp [rdObj,hF7,lk]) (by (try simp only [List.length_append,List.length_cons,List.length_nil]);omega)) hpw3 hb7 hdw3_0 hdw3_1 fun Hw4 hpw4 hdw4_0 hdw4_1 hdw4_2=>?_
   simp (disch:=first | assumption | exact .symm ‹_› | omega) only [hF2,hF3,↓hla0,↓hla1,hF7,Int.reduceBEq,↓ZD,ZW,simprocAttr]
   refine ⟨Hw4,by simp +contextual,?_⟩
   refine hpw4.cast ?_ ?_
   ·simp [pt,har,nodeT,isTwo,signT,methT,ptL]
   ·simp [okX,okL,har,nodeOk,litOk]
    cases bad <;> cases okX x <;> cases okX y <;> rfl
  ·obtain ⟨x,rfl⟩:∃ x,kids=[x]:=by
    have:=hr3 (by decide)
    rw [show kidsI 16=1 by decide] at this
    match kids,this with | [x],_=>exact ⟨x,rfl⟩
   obtain ⟨ba0,oa0,ea0,hla0⟩:=(h1 0 x rfl).ldn
   simp only [Nat.reduceMul,Nat.zero_mul,Nat.add_zero] at hla0
   subst ea0
   have har:arOk 16 1 names.length=true:=by simpa using har
   rw [show isTwo 16=false from rfl,if_neg (by decide)]
   simp only [wtL] at hw
   have hl2:s.length+([40]++(pt x++([32,105,115,32]++(nm++[41])))).length≤100000000000000:=by simpa [pt,har,nodeT,isTwo,signT,methT,ptL] using hl
   simp only [List.length_append,List.length_cons,List.length_nil] at hl2
   simp (disch:=first | assumption | exact .symm ‹_› | omega) only [hF2,hF3,↓hla0,getV,Int.reduceBEq,↓ZD,ZW,simprocAttr]
   refine new_2 fun b5 he5_0 he5_1 hb5 hF5=>?_
   simp (disch:=first | assumption | exact .symm ‹_› | omega) only [hF2,hF3,↓hla0,hF5,Int.reduceBEq,↓ZD,ZW,simprocAttr]
   refine wr_111 (put1 _ b b5 9 (s) ([40]) _ (by simp [rdObj,hF5,lk]) (by (try simp only [List.length_append,List.length_cons,List.length_nil]);omega)) hp hb5 hb3 hb2 fun Hw0 hpw0 hdw0_0 hdw0_1 hdw0_2=>?_
   simp (disch:=first | assumption | exact .symm ‹_› | omega) only [hF2,hF3,↓hla0,hF5,Int.reduceBEq,↓ZD,ZW,simprocAttr]
   repeat (refine conj.of (by first | omega | decide) ?_;simp (disch:=first | assumption | exact .symm ‹_› | omega) only [hF2,hF3,↓hla0,hF5,Int.reduceBEq,↓ZD,ZW,simprocAttr])
   refine wr_011 (ih 0 x rfl _ le_up b (s++[40]) (bad) (by (try simp only [List.length_append,List.length_cons,List.length_nil]);omega)) hpw0 hdw0_1 hdw0_2 fun Hw1 hpw1 hdw1_0 hdw1_1=>?_
   simp (disch:=first | assumption | exact .symm ‹_› | omega) only [hF2,hF3,↓hla0,hF5,Int.reduceBEq,↓ZD,ZW,simprocAttr]
   refine new_2 fun b6 he6_0 he6_1 hb6 hF6=>?_
   simp (disch:=first | assumption | exact .symm ‹_› | omega) only [hF2,hF3,↓hla0,hF6,Int.reduceBEq,↓ZD,ZW,simprocAttr]
   refine wr_111 (put1 _ b b6 9 (s++[40]++pt x) ([32,105,115,32]) _ (by simp [rdObj,hF6,lk]) (by (try simp only [List.length_append,List.length_cons,List.length_nil]);omega)) hpw1 hb6 hdw1_0 hdw1_1 fun Hw2 hpw2 hdw2_0 hdw2_1 hdw2_2=>?_
   simp (disch:=first | assumption | exact .symm ‹_› | omega) only [hF2,hF3,↓hla0,hF6,Int.reduceBEq,↓ZD,ZW,simprocAttr]
   refine wr_011 (path_wr _ (hM.mono le_up) b (s++[40]++pt x++[32,105,115,32]) (bad||!okX x) nm (by (try simp only [List.length_append,List.length_cons,List.length_nil]);omega) (by omega)) hpw2 hdw2_1 hdw2_2 fun Hw3 hpw3 hdw3_0 hdw3_1=>?_
   simp (disch:=first | assumption | exact .symm ‹_› | omega) only [hF2,hF3,↓hla0,hF6,Int.reduceBEq,↓ZD,ZW,simprocAttr]
   refine new_2 fun b7 he7_0 he7_1 hb7 hF7=>?_
   simp (disch:=first | assumption | exact .symm ‹_› | omega) only [hF2,hF3,↓hla0,hF7,Int.reduceBEq,↓ZD,ZW,simprocAttr]
   refine wr_111 (put1 _ b b7 9 (s++[40]++pt x++[32,105,115,32]++nm) ([41]) _ (by simp [rdObj,hF7,lk]) (by (try simp only [List.length_append,List.length_cons,List.length_nil]);omega)) hpw3 hb7 hdw3_0 hdw3_1 fun Hw4 hpw4 hdw4_0 hdw4_1 hdw4_2=>?_
   simp (disch:=first | assumption | exact .symm ‹_› | omega) only [hF2,hF3,↓hla0,hF7,Int.reduceBEq,↓ZD,ZW,simprocAttr]
   refine ⟨Hw4,by simp +contextual,?_⟩
   refine hpw4.cast ?_ ?_
   ·simp [pt,har,nodeT,isTwo,signT,methT,ptL]
   ·simp [okX,okL,har,nodeOk,litOk]
    cases bad <;> cases okX x <;> cases okPath nm <;> rfl
  ·obtain ⟨x,rfl⟩:∃ x,kids=[x]:=by
    have:=hr3 (by decide)
    rw [show kidsI 17=1 by decide] at this
    match kids,this with | [x],_=>exact ⟨x,rfl⟩
   obtain ⟨ba0,oa0,ea0,hla0⟩:=(h1 0 x rfl).ldn
   simp only [Nat.reduceMul,Nat.zero_mul,Nat.add_zero] at hla0
   subst ea0
   have har:arOk 17 1 names.length=true:=by simpa using har
   rw [show isTwo 17=false from rfl,if_neg (by decide)]
   simp only [wtL] at hw
   have hl2:s.length+([40]++(pt x++([32,104,97,115,32]++(nm++[41])))).length≤100000000000000:=by simpa [pt,har,nodeT,isTwo,signT,methT,ptL] using hl
   simp only [List.length_append,List.length_cons,List.length_nil] at hl2
   simp (disch:=first | assumption | exact .symm ‹_› | omega) only [hF2,hF3,↓hla0,getV,Int.reduceBEq,↓ZD,ZW,simprocAttr]
   refine CallQ.of _ (name_pure _ nm (by omega)) ?_
   simp (disch:=first | assumption | exact .symm ‹_› | omega) only [hF2,hF3,↓hla0,Int.reduceBEq,↓ZD,ZW,simprocAttr]
   refine wr_11 (must_wr _ b s bad (nameB nm)) hp hb3 hb2 fun Hw0 hpw0 hdw0_0 hdw0_1=>?_
   simp (disch:=first | assumption | exact .symm ‹_› | omega) only [hF2,hF3,↓hla0,Int.reduceBEq,↓ZD,ZW,simprocAttr]
   refine new_2 fun b5 he5_0 he5_1 hb5 hF5=>?_
   simp (disch:=first | assumption | exact .symm ‹_› | omega) only [hF2,hF3,↓hla0,hF5,Int.reduceBEq,↓ZD,ZW,simprocAttr]
   refine wr_111 (put1 _ b b5 9 (s) ([40]) _ (by simp [rdObj,hF5,lk]) (by (try simp only [List.length_append,List.length_cons,List.length_nil]);omega)) hpw0 hb5 hdw0_0 hdw0_1 fun Hw1 hpw1 hdw1_0 hdw1_1 hdw1_2=>?_
   simp (disch:=first | assumption | exact .symm ‹_› | omega) only [hF2,hF3,↓hla0,hF5,Int.reduceBEq,↓ZD,ZW,simprocAttr]
   repeat (refine conj.of (by first | omega | decide) ?_;simp (disch:=first | assumption | exact .symm ‹_› | omega) only [hF2,hF3,↓hla0,hF5,Int.reduceBEq,↓ZD,ZW,simprocAttr])
   refine wr_011 (ih 0 x rfl _ le_up b (s++[40]) (bad||!nameB nm) (by (try simp only [List.length_append,List.length_cons,List.length_nil]);omega)) hpw1 hdw1_1 hdw1_2 fun Hw2 hpw2 hdw2_0 hdw2_1=>?_
   simp (disch:=first | assumption | exact .symm ‹_› | omega) only [hF2,hF3,↓hla0,hF5,Int.reduceBEq,↓ZD,ZW,simprocAttr]
   refine new_2 fun b6 he6_0 he6_1 hb6 hF6=>?_
   simp (disch:=first | assumption | exact .symm ‹_› | omega) only [hF2,hF3,↓hla0,hF6,Int.reduceBEq,↓ZD,ZW,simprocAttr]
   refine wr_111 (put3 _ b b6 9 (s++[40]++pt x) ([32,104,97,115,32]) (nm) ([41]) _ (by simp [rdObj,hF6,lk]) (by (try simp only [List.length_append,List.length_cons,List.length_nil]);omega)) hpw2 hb6 hdw2_0 hdw2_1 fun Hw3 hpw3 hdw3_0 hdw3_1 hdw3_2=>?_
   simp (disch:=first | assumption | exact .symm ‹_› | omega) only [hF2,hF3,↓hla0,hF6,Int.reduceBEq,↓ZD,ZW,simprocAttr]
   refine ⟨Hw3,by simp +contextual,?_⟩
   refine hpw3.cast ?_ ?_
   ·simp [pt,har,nodeT,isTwo,signT,methT,ptL]
   ·simp [okX,okL,har,nodeOk,litOk]
    cases bad <;> cases okX x <;> cases nameB nm <;> rfl
  ·obtain ⟨x,rfl⟩:∃ x,kids=[x]:=by
    have:=hr3 (by decide)
    rw [show kidsI 18=1 by decide] at this
    match kids,this with | [x],_=>exact ⟨x,rfl⟩
   obtain ⟨ba0,oa0,ea0,hla0⟩:=(h1 0 x rfl).ldn
   simp only [Nat.reduceMul,Nat.zero_mul,Nat.add_zero] at hla0
   subst ea0
   have har:arOk 18 1 names.length=true:=by simpa using har
   rw [show isTwo 18=false from rfl,if_neg (by decide)]
   simp only [wtL] at hw
   have hql:=quote_len nm
   simp (disch:=first | assumption | exact .symm ‹_› | omega) only [hF2,hF3,↓hla0,getV,Int.reduceBEq,↓ZD,ZW,simprocAttr]
   have ho2:=own1_len x.op (pt x)
   have hp2:=pt_len (r1 0 x rfl)
   have hl2:s.length+((own1 x.op (pt x)).length+(if nameB nm then 46::nm else 91::(quote nm++[93])).length)≤100000000000000:=by simpa [pt,har,nodeT,isTwo,signT,methT,ptL] using hl
   repeat (refine conj.of (by first | omega | decide) ?_;simp (disch:=first | assumption | exact .symm ‹_› | omega) only [hF2,hF3,↓hla0,Int.reduceBEq,↓ZD,ZW,simprocAttr])
   refine wr_11 (owner_wr _ b (s) (bad) ((r1 0 x rfl).mono le_up) ((ih 0 x rfl).mono le_up) (by (try simp only [List.length_append,List.length_cons,List.length_nil]);omega)) hp hb3 hb2 fun Hw0 hpw0 hdw0_0 hdw0_1=>?_
   simp (disch:=first | assumption | exact .symm ‹_› | omega) only [hF2,hF3,↓hla0,Int.reduceBEq,↓ZD,ZW,simprocAttr]
   refine CallE.pure (name_pure _ nm (by omega)) ?_
   simp (disch:=first | assumption | exact .symm ‹_› | omega) only [hF2,hF3,↓hla0,Int.reduceBEq,↓ZD,ZW,simprocAttr]
   refine ⟨fun hnb=>?_,fun hnb=>?_⟩
   ·rw [hnb,if_pos rfl] at hl2
    simp only [List.length_cons] at hl2
    refine new_2 fun b5 he5_0 he5_1 hb5 hF5=>?_
    simp (disch:=first | assumption | exact .symm ‹_› | omega) only [hF2,hF3,↓hla0,hF5,Int.reduceBEq,↓ZD,ZW,simprocAttr]
    refine wr_111 (put2 _ b b5 9 (s++own1 x.op (pt x)) ([46]) (nm) _ (by simp [rdObj,hF5,lk]) (by (try simp only [List.length_append,List.length_cons,List.length_nil]);omega)) hpw0 hb5 hdw0_0 hdw0_1 fun Hw1 hpw1 hdw1_0 hdw1_1 hdw1_2=>?_
    simp (disch:=first | assumption | exact .symm ‹_› | omega) only [hF2,hF3,↓hla0,hF5,Int.reduceBEq,↓ZD,ZW,simprocAttr]
    refine ⟨Hw1,by simp +contextual,?_⟩
    refine hpw1.cast ?_ ?_
    ·simp [pt,har,nodeT,isTwo,signT,methT,ptL,hnb]
    ·simp [okX,okL,har,nodeOk,litOk,hnb]
   ·rw [hnb,if_neg (by decide)] at hl2
    simp only [List.length_append,List.length_cons,List.length_nil] at hl2
    try (simp (disch:=first | assumption | exact .symm ‹_› | omega) only [hF2,hF3,↓hla0,Int.reduceBEq,↓ZD,ZW,simprocAttr])
    refine CallQ.of _ (quote_pure _ nm (by omega)) ?_
    simp (disch:=first | assumption | exact .symm ‹_› | omega) only [hF2,hF3,↓hla0,Int.reduceBEq,↓ZD,ZW,simprocAttr]
    refine new_2 fun b5 he5_0 he5_1 hb5 hF5=>?_
    simp (disch:=first | assumption | exact .symm ‹_› | omega) only [hF2,hF3,↓hla0,hF5,Int.reduceBEq,↓ZD,ZW,simprocAttr]
    refine wr_111 (put3 _ b b5 9 (s++own1 x.op (pt x)) ([91]) ((quote nm)) ([93]) _ (by simp [rdObj,hF5,lk]) (by (try simp only [List.length_append,List.length_cons,List.length_nil]);omega)) hpw0 hb5 hdw0_0 hdw0_1 fun Hw1 hpw1 hdw1_0 hdw1_1 hdw1_2=>?_
    simp (disch:=first | assumption | exact .symm ‹_› | omega) only [hF2,hF3,↓hla0,hF5,Int.reduceBEq,↓ZD,ZW,simprocAttr]
    refine ⟨Hw1,by simp +contextual,?_⟩
    refine hpw1.cast ?_ ?_
    ·simp [pt,har,nodeT,isTwo,signT,methT,ptL,hnb]
    ·simp [okX,okL,har,nodeOk,litOk,hnb]
  ·have har:arOk 19 kids.length names.length=true:=by simpa using har
   rw [show isTwo 19=false from rfl,if_neg (by decide)]
   have eQ:ahQ=fun _=>[]:=rfl
   have hl2:s.length+([91]++(rowT ahQ 0 (ptL kids)++[93])).length≤100000000000000:=by simpa [pt,har,nodeT,isTwo,eQ] using hl
   simp only [List.length_append,List.length_cons,List.length_nil] at hl2
   simp (disch:=first | assumption | exact .symm ‹_› | omega) only [hF2,hF3,getV,Int.reduceBEq,↓ZD,ZW,simprocAttr]
   refine new_2 fun b5 he5_0 he5_1 hb5 hF5=>?_
   simp (disch:=first | assumption | exact .symm ‹_› | omega) only [hF2,hF3,hF5,Int.reduceBEq,↓ZD,ZW,simprocAttr]
   refine wr_111 (put1 _ b b5 9 (s) ([91]) _ (by simp [rdObj,hF5,lk]) (by (try simp only [List.length_append,List.length_cons,List.length_nil]);omega)) hp hb5 hb3 hb2 fun Hw0 hpw0 hdw0_0 hdw0_1 hdw0_2=>?_
   simp (disch:=first | assumption | exact .symm ‹_› | omega) only [hF2,hF3,hF5,Int.reduceBEq,↓ZD,ZW,simprocAttr]
   refine wr_011 (row_wr _ b (s++[91]) (bad) (ahQ_aw _ b _) hc1 hl1 (fun i t h=>(h1 i t h).mono le_up) (fun i t h=>(r1 i t h).mono le_up) (fun i t h=>(ih i t h).mono le_up) (by (try simp only [List.length_append,List.length_cons,List.length_nil]);omega)) hpw0 hdw0_1 hdw0_2 fun Hw1 hpw1 hdw1_0 hdw1_1=>?_
   simp (disch:=first | assumption | exact .symm ‹_› | omega) only [hF2,hF3,hF5,Int.reduceBEq,↓ZD,ZW,simprocAttr]
   refine new_2 fun b6 he6_0 he6_1 hb6 hF6=>?_
   simp (disch:=first | assumption | exact .symm ‹_› | omega) only [hF2,hF3,hF6,Int.reduceBEq,↓ZD,ZW,simprocAttr]
   refine wr_111 (put1 _ b b6 9 (s++[91]++rowT ahQ 0 (ptL kids)) ([93]) _ (by simp [rdObj,hF6,lk]) (by (try simp only [List.length_append,List.length_cons,List.length_nil]);omega)) hpw1 hb6 hdw1_0 hdw1_1 fun Hw2 hpw2 hdw2_0 hdw2_1 hdw2_2=>?_
   simp (disch:=first | assumption | exact .symm ‹_› | omega) only [hF2,hF3,hF6,Int.reduceBEq,↓ZD,ZW,simprocAttr]
   refine ⟨Hw2,by simp +contextual,?_⟩
   refine hpw2.cast ?_ ?_
   ·simp [pt,har,nodeT,isTwo,signT,methT,ptL,eQ]
   ·simp [okX,okL,har,nodeOk,litOk,eQ]
  ·rw [show isTwo 20=false from rfl,if_neg (by decide)]
   have hsm:∀ x∈names,SmT x:=fun x hx=>by have:=sum_mem' hx;unfold SmT;omega
   by_cases hnn:names.length=kids.length
   ·have har:arOk 20 kids.length names.length=true:=by rw [har,hnn];simp
    have hnb:((names.length:Int) != (kids.length:Int))=false:=by rw [hnn];simp
    have eQ:ahN names=fun i=>quote (names.getD i [])++[58,32]:=rfl
    have hl2:s.length+([123]++(rowT (ahN names) 0 (ptL kids)++[125])).length≤100000000000000:=by simpa [pt,har,nodeT,isTwo,eQ] using hl
    simp only [List.length_append,List.length_cons,List.length_nil] at hl2
    simp (disch:=first | assumption | exact .symm ‹_› | omega) only [hF2,hF3,getV,hnb,Int.reduceBEq,↓ZD,ZW,simprocAttr]
    refine new_2 fun b5 he5_0 he5_1 hb5 hF5=>?_
    simp (disch:=first | assumption | exact .symm ‹_› | omega) only [hF2,hF3,hF5,Int.reduceBEq,↓ZD,ZW,simprocAttr]
    refine wr_111 (put1 _ b b5 9 (s) ([123]) _ (by simp [rdObj,hF5,lk]) (by (try simp only [List.length_append,List.length_cons,List.length_nil]);omega)) hp hb5 hb3 hb2 fun Hw0 hpw0 hdw0_0 hdw0_1 hdw0_2=>?_
    simp (disch:=first | assumption | exact .symm ‹_› | omega) only [hF2,hF3,hF5,Int.reduceBEq,↓ZD,ZW,simprocAttr]
    refine wr_011 (row_wr _ b (s++[123]) (bad) (hnn ▸ ahN_aw _ b b2 b3 60 (op:=20) (v:=v) (u1:=.slice d1 d2 d3) (u2:=.slice d4 d5 d6) (nm:=nm) (vk:=.slice a1 kids.length c1) (hN0.mono le_up) hsm (by simp [rdObj,hF2,lk,hb23,Ne.symm hb23]) (by simp [rdObj,hF3,lk,hb23,xcells])) hc1 hl1 (fun i t h=>(h1 i t h).mono le_up) (fun i t h=>(r1 i t h).mono le_up) (fun i t h=>(ih i t h).mono le_up) (by (try simp only [List.length_append,List.length_cons,List.length_nil]);omega)) hpw0 hdw0_1 hdw0_2 fun Hw1 hpw1 hdw1_0 hdw1_1=>?_
    simp (disch:=first | assumption | exact .symm ‹_› | omega) only [hF2,hF3,hF5,Int.reduceBEq,↓ZD,ZW,simprocAttr]
    refine new_2 fun b6 he6_0 he6_1 hb6 hF6=>?_
    simp (disch:=first | assumption | exact .symm ‹_› | omega) only [hF2,hF3,hF6,Int.reduceBEq,↓ZD,ZW,simprocAttr]
    refine wr_111 (put1 _ b b6 9 (s++[123]++rowT (ahN names) 0 (ptL kids)) ([125]) _ (by simp [rdObj,hF6,lk]) (by (try simp only [List.length_append,List.length_cons,List.length_nil]);omega)) hpw1 hb6 hdw1_0 hdw1_1 fun Hw2 hpw2 hdw2_0 hdw2_1 hdw2_2=>?_
    simp (disch:=first | assumption | exact .symm ‹_› | omega) only [hF2,hF3,hF6,Int.reduceBEq,↓ZD,ZW,simprocAttr]
    refine ⟨Hw2,by simp +contextual,?_⟩
    refine hpw2.cast ?_ ?_
    ·simp [pt,har,nodeT,isTwo,signT,methT,ptL,eQ]
    ·simp [okX,okL,har,nodeOk,litOk,eQ]
   ·have har:arOk 20 kids.length names.length=false:=by rw [har];simp;omega
    have hnb:((names.length:Int) != (kids.length:Int))=true:=by simp;omega
    simp (disch:=first | assumption | exact .symm ‹_› | omega) only [hF2,hF3,getV,hnb,Int.reduceBEq,↓ZD,ZW,simprocAttr]
    refine wr_11 (must_wr _ b s bad false) hp hb3 hb2 fun Hw0 hpw0 hdw0_0 hdw0_1=>?_
    simp (disch:=first | assumption | exact .symm ‹_› | omega) only [hF2,hF3,Int.reduceBEq,↓ZD,ZW,simprocAttr]
    refine ⟨Hw0,by simp +contextual,?_⟩
    refine hpw0.cast ?_ ?_
    ·simp [pt,har,nodeT,isTwo,signT,methT,ptL]
    ·simp [okX,okL,har,nodeOk,litOk]
  ·obtain ⟨x,y,rfl⟩:∃ x y,kids=[x,y]:=by
    have:=hr3 (by decide)
    rw [show kidsI 21=2 by decide] at this
    match kids,this with | [x,y],_=>exact ⟨x,y,rfl⟩
   obtain ⟨ba0,oa0,ea0,hla0⟩:=(h1 0 x rfl).ldn
   simp only [Nat.reduceMul,Nat.zero_mul,Nat.add_zero] at hla0
   obtain ⟨ba1,oa1,ea1,hla1⟩:=(h1 1 y rfl).ldn
   simp only [Nat.reduceMul,Nat.zero_mul,Nat.add_zero] at hla1
   subst ea0
   simp only [Option.some.injEq,Addr.mk.injEq,and_true] at ea1
   obtain ⟨rfl,rfl⟩:=ea1
   have har:arOk 21 2 names.length=true:=by simpa using har
   rw [show isTwo 21=false from rfl,if_neg (by decide)]
   simp only [wtL] at hw
   have hl2:s.length+(own1 x.op (pt x)++([46,99,111,110,116,97,105,110,115,40]++(pt y++[41]))).length≤100000000000000:=by simpa [pt,har,nodeT,isTwo,signT,methT,ptL] using hl
   simp only [List.length_append,List.length_cons,List.length_nil] at hl2
   simp (disch:=first | assumption | exact .symm ‹_› | omega) only [hF2,hF3,↓hla0,↓hla1,getV,Int.reduceBEq,↓ZD,ZW,simprocAttr]
   repeat (refine conj.of (by first | omega | decide) ?_;simp (disch:=first | assumption | exact .symm ‹_› | omega) only [hF2,hF3,↓hla0,↓hla1,Int.reduceBEq,↓ZD,ZW,simprocAttr])
   refine wr_11 (owner_wr _ b (s) (bad) ((r1 0 x rfl).mono le_up) ((ih 0 x rfl).mono le_up) (by (try simp only [List.length_append,List.length_cons,List.length_nil]);omega)) hp hb3 hb2 fun Hw0 hpw0 hdw0_0 hdw0_1=>?_
   simp (disch:=first | assumption | exact .symm ‹_› | omega) only [hF2,hF3,↓hla0,↓hla1,Int.reduceBEq,↓ZD,ZW,simprocAttr]
   refine EfL.mkMap fun b5 hb5 hF5=>?_
   simp only [List.forall_mem_cons] at hb5
   obtain ⟨he5_0,he5_1,hb5⟩:=hb5
   have hu5:∀ o,upd Hw0 b5 o=Hw0:=fun o=>upd_new hb5
   simp (disch:=first | assumption | exact .symm ‹_› | omega) only [hF2,hF3,↓hla0,↓hla1,hF5,hu5,Int.reduceBEq,↓ZD,ZW,simprocAttr]
   refine EfL.ins (es:=#[]) (c:=0) hF5 (by simp [lk]) rfl ?_
   simp (disch:=first | assumption | exact .symm ‹_› | omega) only [hF2,hF3,↓hla0,↓hla1,hF5,hu5,Int.reduceBEq,↓ZD,ZW,simprocAttr]
   refine EfL.ins (es:=#[{ key:=.int .i64 21,val:=.string (bs [46,99,111,110,116,97,105,110,115,40]),born:=0 }]) (c:=1) hF5 (by simp [lk]) rfl ?_
   simp (disch:=first | assumption | exact .symm ‹_› | omega) only [hF2,hF3,↓hla0,↓hla1,hF5,hu5,Int.reduceBEq,↓ZD,ZW,simprocAttr]
   refine EfL.ins (es:=#[{ key:=.int .i64 21,val:=.string (bs [46,99,111,110,116,97,105,110,115,40]),born:=0 },{ key:=.int .i64 22,val:=.string (bs [46,99,111,110,116,97,105,110,115,65,108,108,40]),born:=1 }]) (c:=2) hF5 (by simp [lk]) rfl ?_
   simp (disch:=first | assumption | exact .symm ‹_› | omega) only [hF2,hF3,↓hla0,↓hla1,hF5,hu5,Int.reduceBEq,↓ZD,ZW,simprocAttr]
   refine EfL.get (es:=[{ key:=.int .i64 21,val:=.string (bs [46,99,111,110,116,97,105,110,115,40]),born:=0 },{ key:=.int .i64 22,val:=.string (bs [46,99,111,110,116,97,105,110,115,65,108,108,40]),born:=1 },{ key:=.int .i64 23,val:=.string (bs [46,99,111,110,116,97,105,110,115,65,110,121,40]),born:=2 }]) (by simp [mapEs,rdObj,hF5,lk]) rfl ?_
   simp (disch:=first | assumption | exact .symm ‹_› | omega) only [hF2,hF3,↓hla0,↓hla1,hF5,hu5,getV,Int.reduceBEq,↓ZD,ZW,simprocAttr]
   refine new_3 fun b6 he6_0 he6_1 he6_2 hb6 hF6=>?_
   simp (disch:=first | assumption | exact .symm ‹_› | omega) only [hF2,hF3,↓hla0,↓hla1,hF6,Int.reduceBEq,↓ZD,ZW,simprocAttr]
   refine wr_1011 (put1 _ b b6 9 (s++own1 x.op (pt x)) ([46,99,111,110,116,97,105,110,115,40]) _ (by simp [rdObj,hF6,lk]) (by (try simp only [List.length_append,List.length_cons,List.length_nil]);omega)) hpw0 hb6 hdw0_0 hdw0_1 fun Hw1 hpw1 hdw1_0 hdw1_1 hdw1_2=>?_
   simp (disch:=first | assumption | exact .symm ‹_› | omega) only [hF2,hF3,↓hla0,↓hla1,hF6,Int.reduceBEq,↓ZD,ZW,simprocAttr]
   repeat (refine conj.of (by first | omega | decide) ?_;simp (disch:=first | assumption | exact .symm ‹_› | omega) only [hF2,hF3,↓hla0,↓hla1,hF6,Int.reduceBEq,↓ZD,ZW,simprocAttr])
   refine wr_011 (ih 1 y rfl _ le_up b (s++own1 x.op (pt x)++[46,99,111,110,116,97,105,110,115,40]) (bad||!okX x) (by (try simp only [List.length_append,List.length_cons,List.length_nil]);omega)) hpw1 hdw1_1 hdw1_2 fun Hw2 hpw2 hdw2_0 hdw2_1=>?_
   simp (disch:=first | assumption | exact .symm ‹_› | omega) only [hF2,hF3,↓hla0,↓hla1,hF6,Int.reduceBEq,↓ZD,ZW,simprocAttr]
   refine new_2 fun b7 he7_0 he7_1 hb7 hF7=>?_
   simp (disch:=first | assumption | exact .symm ‹_› | omega) only [hF2,hF3,↓hla0,↓hla1,hF7,Int.reduceBEq,↓ZD,ZW,simprocAttr]
   refine wr_111 (put1 _ b b7 9 (s++own1 x.op (pt x)++[46,99,111,110,116,97,105,110,115,40]++pt y) ([41]) _ (by simp [rdObj,hF7,lk]) (by (try simp only [List.length_append,List.length_cons,List.length_nil]);omega)) hpw2 hb7 hdw2_0 hdw2_1 fun Hw3 hpw3 hdw3_0 hdw3_1 hdw3_2=>?_
   simp (disch:=first | assumption | exact .symm ‹_› | omega) only [hF2,hF3,↓hla0,↓hla1,hF7,Int.reduceBEq,↓ZD,ZW,simprocAttr]
   refine ⟨Hw3,by simp +contextual,?_⟩
   refine hpw3.cast ?_ ?_
   ·simp [pt,har,nodeT,isTwo,signT,methT,ptL]
   ·simp [okX,okL,har,nodeOk,litOk]
    cases bad <;> cases okX x <;> cases okX y <;> rfl
  ·obtain ⟨x,y,rfl⟩:∃ x y,kids=[x,y]:=by
    have:=hr3 (by decide)
    rw [show kidsI 22=2 by decide] at this
    match kids,this with | [x,y],_=>exact ⟨x,y,rfl⟩
   obtain ⟨ba0,oa0,ea0,hla0⟩:=(h1 0 x rfl).ldn
   simp only [Nat.reduceMul,Nat.zero_mul,Nat.add_zero] at hla0
   obtain ⟨ba1,oa1,ea1,hla1⟩:=(h1 1 y rfl).ldn
   simp only [Nat.reduceMul,Nat.zero_mul,Nat.add_zero] at hla1
   subst ea0
   simp only [Option.some.injEq,Addr.mk.injEq,and_true] at ea1
   obtain ⟨rfl,rfl⟩:=ea1
   have har:arOk 22 2 names.length=true:=by simpa using har
   rw [show isTwo 22=false from rfl,if_neg (by decide)]
   simp only [wtL] at hw
   have hl2:s.length+(own1 x.op (pt x)++([46,99,111,110,116,97,105,110,115,65,108,108,40]++(pt y++[41]))).length≤100000000000000:=by simpa [pt,har,nodeT,isTwo,signT,methT,ptL] using hl
   simp only [List.length_append,List.length_cons,List.length_nil] at hl2
   simp (disch:=first | assumption | exact .symm ‹_› | omega) only [hF2,hF3,↓hla0,↓hla1,getV,Int.reduceBEq,↓ZD,ZW,simprocAttr]
   repeat (refine conj.of (by first | omega | decide) ?_;simp (disch:=first | assumption | exact .symm ‹_› | omega) only [hF2,hF3,↓hla0,↓hla1,Int.reduceBEq,↓ZD,ZW,simprocAttr])
   refine wr_11 (owner_wr _ b (s) (bad) ((r1 0 x rfl).mono le_up) ((ih 0 x rfl).mono le_up) (by (try simp only [List.length_append,List.length_cons,List.length_nil]);omega)) hp hb3 hb2 fun Hw0 hpw0 hdw0_0 hdw0_1=>?_
   simp (disch:=first | assumption | exact .symm ‹_› | omega) only [hF2,hF3,↓hla0,↓hla1,Int.reduceBEq,↓ZD,ZW,simprocAttr]
   refine EfL.mkMap fun b5 hb5 hF5=>?_
   simp only [List.forall_mem_cons] at hb5
   obtain ⟨he5_0,he5_1,hb5⟩:=hb5
   have hu5:∀ o,upd Hw0 b5 o=Hw0:=fun o=>upd_new hb5
   simp (disch:=first | assumption | exact .symm ‹_› | omega) only [hF2,hF3,↓hla0,↓hla1,hF5,hu5,Int.reduceBEq,↓ZD,ZW,simprocAttr]
   refine EfL.ins (es:=#[]) (c:=0) hF5 (by simp [lk]) rfl ?_
   simp (disch:=first | assumption | exact .symm ‹_› | omega) only [hF2,hF3,↓hla0,↓hla1,hF5,hu5,Int.reduceBEq,↓ZD,ZW,simprocAttr]
   refine EfL.ins (es:=#[{ key:=.int .i64 21,val:=.string (bs [46,99,111,110,116,97,105,110,115,40]),born:=0 }]) (c:=1) hF5 (by simp [lk]) rfl ?_
   simp (disch:=first | assumption | exact .symm ‹_› | omega) only [hF2,hF3,↓hla0,↓hla1,hF5,hu5,Int.reduceBEq,↓ZD,ZW,simprocAttr]
   refine EfL.ins (es:=#[{ key:=.int .i64 21,val:=.string (bs [46,99,111,110,116,97,105,110,115,40]),born:=0 },{ key:=.int .i64 22,val:=.string (bs [46,99,111,110,116,97,105,110,115,65,108,108,40]),born:=1 }]) (c:=2) hF5 (by simp [lk]) rfl ?_
   simp (disch:=first | assumption | exact .symm ‹_› | omega) only [hF2,hF3,↓hla0,↓hla1,hF5,hu5,Int.reduceBEq,↓ZD,ZW,simprocAttr]
   refine EfL.get (es:=[{ key:=.int .i64 21,val:=.string (bs [46,99,111,110,116,97,105,110,115,40]),born:=0 },{ key:=.int .i64 22,val:=.string (bs [46,99,111,110,116,97,105,110,115,65,108,108,40]),born:=1 },{ key:=.int .i64 23,val:=.string (bs [46,99,111,110,116,97,105,110,115,65,110,121,40]),born:=2 }]) (by simp [mapEs,rdObj,hF5,lk]) rfl ?_
   simp (disch:=first | assumption | exact .symm ‹_› | omega) only [hF2,hF3,↓hla0,↓hla1,hF5,hu5,getV,Int.reduceBEq,↓ZD,ZW,simprocAttr]
   refine new_3 fun b6 he6_0 he6_1 he6_2 hb6 hF6=>?_
   simp (disch:=first | assumption | exact .symm ‹_› | omega) only [hF2,hF3,↓hla0,↓hla1,hF6,Int.reduceBEq,↓ZD,ZW,simprocAttr]
   refine wr_1011 (put1 _ b b6 9 (s++own1 x.op (pt x)) ([46,99,111,110,116,97,105,110,115,65,108,108,40]) _ (by simp [rdObj,hF6,lk]) (by (try simp only [List.length_append,List.length_cons,List.length_nil]);omega)) hpw0 hb6 hdw0_0 hdw0_1 fun Hw1 hpw1 hdw1_0 hdw1_1 hdw1_2=>?_
   simp (disch:=first | assumption | exact .symm ‹_› | omega) only [hF2,hF3,↓hla0,↓hla1,hF6,Int.reduceBEq,↓ZD,ZW,simprocAttr]
   repeat (refine conj.of (by first | omega | decide) ?_;simp (disch:=first | assumption | exact .symm ‹_› | omega) only [hF2,hF3,↓hla0,↓hla1,hF6,Int.reduceBEq,↓ZD,ZW,simprocAttr])
   refine wr_011 (ih 1 y rfl _ le_up b (s++own1 x.op (pt x)++[46,99,111,110,116,97,105,110,115,65,108,108,40]) (bad||!okX x) (by (try simp only [List.length_append,List.length_cons,List.length_nil]);omega)) hpw1 hdw1_1 hdw1_2 fun Hw2 hpw2 hdw2_0 hdw2_1=>?_
   simp (disch:=first | assumption | exact .symm ‹_› | omega) only [hF2,hF3,↓hla0,↓hla1,hF6,Int.reduceBEq,↓ZD,ZW,simprocAttr]
   refine new_2 fun b7 he7_0 he7_1 hb7 hF7=>?_
   simp (disch:=first | assumption | exact .symm ‹_› | omega) only [hF2,hF3,↓hla0,↓hla1,hF7,Int.reduceBEq,↓ZD,ZW,simprocAttr]
   refine wr_111 (put1 _ b b7 9 (s++own1 x.op (pt x)++[46,99,111,110,116,97,105,110,115,65,108,108,40]++pt y) ([41]) _ (by simp [rdObj,hF7,lk]) (by (try simp only [List.length_append,List.length_cons,List.length_nil]);omega)) hpw2 hb7 hdw2_0 hdw2_1 fun Hw3 hpw3 hdw3_0 hdw3_1 hdw3_2=>?_
   simp (disch:=first | assumption | exact .symm ‹_› | omega) only [hF2,hF3,↓hla0,↓hla1,hF7,Int.reduceBEq,↓ZD,ZW,simprocAttr]
   refine ⟨Hw3,by simp +contextual,?_⟩
   refine hpw3.cast ?_ ?_
   ·simp [pt,har,nodeT,isTwo,signT,methT,ptL]
   ·simp [okX,okL,har,nodeOk,litOk]
    cases bad <;> cases okX x <;> cases okX y <;> rfl
  ·obtain ⟨x,y,rfl⟩:∃ x y,kids=[x,y]:=by
    have:=hr3 (by decide)
    rw [show kidsI 23=2 by decide] at this
    match kids,this with | [x,y],_=>exact ⟨x,y,rfl⟩
   obtain ⟨ba0,oa0,ea0,hla0⟩:=(h1 0 x rfl).ldn
   simp only [Nat.reduceMul,Nat.zero_mul,Nat.add_zero] at hla0
   obtain ⟨ba1,oa1,ea1,hla1⟩:=(h1 1 y rfl).ldn
   simp only [Nat.reduceMul,Nat.zero_mul,Nat.add_zero] at hla1
   subst ea0
   simp only [Option.some.injEq,Addr.mk.injEq,and_true] at ea1
   obtain ⟨rfl,rfl⟩:=ea1
   have har:arOk 23 2 names.length=true:=by simpa using har
   rw [show isTwo 23=false from rfl,if_neg (by decide)]
   simp only [wtL] at hw
   have hl2:s.length+(own1 x.op (pt x)++([46,99,111,110,116,97,105,110,115,65,110,121,40]++(pt y++[41]))).length≤100000000000000:=by simpa [pt,har,nodeT,isTwo,signT,methT,ptL] using hl
   simp only [List.length_append,List.length_cons,List.length_nil] at hl2
   simp (disch:=first | assumption | exact .symm ‹_› | omega) only [hF2,hF3,↓hla0,↓hla1,getV,Int.reduceBEq,↓ZD,ZW,simprocAttr]
   repeat (refine conj.of (by first | omega | decide) ?_;simp (disch:=first | assumption | exact .symm ‹_› | omega) only [hF2,hF3,↓hla0,↓hla1,Int.reduceBEq,↓ZD,ZW,simprocAttr])
   refine wr_11 (owner_wr _ b (s) (bad) ((r1 0 x rfl).mono le_up) ((ih 0 x rfl).mono le_up) (by (try simp only [List.length_append,List.length_cons,List.length_nil]);omega)) hp hb3 hb2 fun Hw0 hpw0 hdw0_0 hdw0_1=>?_
   simp (disch:=first | assumption | exact .symm ‹_› | omega) only [hF2,hF3,↓hla0,↓hla1,Int.reduceBEq,↓ZD,ZW,simprocAttr]
   refine EfL.mkMap fun b5 hb5 hF5=>?_
   simp only [List.forall_mem_cons] at hb5
   obtain ⟨he5_0,he5_1,hb5⟩:=hb5
   have hu5:∀ o,upd Hw0 b5 o=Hw0:=fun o=>upd_new hb5
   simp (disch:=first | assumption | exact .symm ‹_› | omega) only [hF2,hF3,↓hla0,↓hla1,hF5,hu5,Int.reduceBEq,↓ZD,ZW,simprocAttr]
   refine EfL.ins (es:=#[]) (c:=0) hF5 (by simp [lk]) rfl ?_
   simp (disch:=first | assumption | exact .symm ‹_› | omega) only [hF2,hF3,↓hla0,↓hla1,hF5,hu5,Int.reduceBEq,↓ZD,ZW,simprocAttr]
   refine EfL.ins (es:=#[{ key:=.int .i64 21,val:=.string (bs [46,99,111,110,116,97,105,110,115,40]),born:=0 }]) (c:=1) hF5 (by simp [lk]) rfl ?_
   simp (disch:=first | assumption | exact .symm ‹_› | omega) only [hF2,hF3,↓hla0,↓hla1,hF5,hu5,Int.reduceBEq,↓ZD,ZW,simprocAttr]
   refine EfL.ins (es:=#[{ key:=.int .i64 21,val:=.string (bs [46,99,111,110,116,97,105,110,115,40]),born:=0 },{ key:=.int .i64 22,val:=.string (bs [46,99,111,110,116,97,105,110,115,65,108,108,40]),born:=1 }]) (c:=2) hF5 (by simp [lk]) rfl ?_
   simp (disch:=first | assumption | exact .symm ‹_› | omega) only [hF2,hF3,↓hla0,↓hla1,hF5,hu5,Int.reduceBEq,↓ZD,ZW,simprocAttr]
   refine EfL.get (es:=[{ key:=.int .i64 21,val:=.string (bs [46,99,111,110,116,97,105,110,115,40]),born:=0 },{ key:=.int .i64 22,val:=.string (bs [46,99,111,110,116,97,105,110,115,65,108,108,40]),born:=1 },{ key:=.int .i64 23,val:=.string (bs [46,99,111,110,116,97,105,110,115,65,110,121,40]),born:=2 }]) (by simp [mapEs,rdObj,hF5,lk]) rfl ?_
   simp (disch:=first | assumption | exact .symm ‹_› | omega) only [hF2,hF3,↓hla0,↓hla1,hF5,hu5,getV,Int.reduceBEq,↓ZD,ZW,simprocAttr]
   refine new_3 fun b6 he6_0 he6_1 he6_2 hb6 hF6=>?_
   simp (disch:=first | assumption | exact .symm ‹_› | omega) only [hF2,hF3,↓hla0,↓hla1,hF6,Int.reduceBEq,↓ZD,ZW,simprocAttr]
   refine wr_1011 (put1 _ b b6 9 (s++own1 x.op (pt x)) ([46,99,111,110,116,97,105,110,115,65,110,121,40]) _ (by simp [rdObj,hF6,lk]) (by (try simp only [List.length_append,List.length_cons,List.length_nil]);omega)) hpw0 hb6 hdw0_0 hdw0_1 fun Hw1 hpw1 hdw1_0 hdw1_1 hdw1_2=>?_
   simp (disch:=first | assumption | exact .symm ‹_› | omega) only [hF2,hF3,↓hla0,↓hla1,hF6,Int.reduceBEq,↓ZD,ZW,simprocAttr]
   repeat (refine conj.of (by first | omega | decide) ?_;simp (disch:=first | assumption | exact .symm ‹_› | omega) only [hF2,hF3,↓hla0,↓hla1,hF6,Int.reduceBEq,↓ZD,ZW,simprocAttr])
   refine wr_011 (ih 1 y rfl _ le_up b (s++own1 x.op (pt x)++[46,99,111,110,116,97,105,110,115,65,110,121,40]) (bad||!okX x) (by (try simp only [List.length_append,List.length_cons,List.length_nil]);omega)) hpw1 hdw1_1 hdw1_2 fun Hw2 hpw2 hdw2_0 hdw2_1=>?_
   simp (disch:=first | assumption | exact .symm ‹_› | omega) only [hF2,hF3,↓hla0,↓hla1,hF6,Int.reduceBEq,↓ZD,ZW,simprocAttr]
   refine new_2 fun b7 he7_0 he7_1 hb7 hF7=>?_
   simp (disch:=first | assumption | exact .symm ‹_› | omega) only [hF2,hF3,↓hla0,↓hla1,hF7,Int.reduceBEq,↓ZD,ZW,simprocAttr]
   refine wr_111 (put1 _ b b7 9 (s++own1 x.op (pt x)++[46,99,111,110,116,97,105,110,115,65,110,121,40]++pt y) ([41]) _ (by simp [rdObj,hF7,lk]) (by (try simp only [List.length_append,List.length_cons,List.length_nil]);omega)) hpw2 hb7 hdw2_0 hdw2_1 fun Hw3 hpw3 hdw3_0 hdw3_1 hdw3_2=>?_
   simp (disch:=first | assumption | exact .symm ‹_› | omega) only [hF2,hF3,↓hla0,↓hla1,hF7,Int.reduceBEq,↓ZD,ZW,simprocAttr]
   refine ⟨Hw3,by simp +contextual,?_⟩
   refine hpw3.cast ?_ ?_
   ·simp [pt,har,nodeT,isTwo,signT,methT,ptL]
   ·simp [okX,okL,har,nodeOk,litOk]
    cases bad <;> cases okX x <;> cases okX y <;> rfl
  ·exact (hbig (.inr ho1)).elim
section
open Go.Proofs Go.Shelf Go.RowKit
set_option maxHeartbeats 2000000 in
theorem pstring_some (b g cap:Nat) (p:Value) (bad:Bool) (l:Str) (sp:List Value) (w:World) (hb:w.heap[b]?=some (PrO p (.slice (some ⟨g,0,none⟩) l.length cap) bad)) (hg:w.heap[g]?=some (.cells (byteCells l++sp).toArray 5 (0,0)))
  (h0:l≠[]) (hc:l.length≤cap) (hm:cap≤9223372036854775807) :
  Calls Tryz.prog 18 #[.pointer (some ⟨b,0,none⟩)] w fun e w'=>e=.returned (.string (bs l))∧w'=w.drew.freeze ⟨g,0,none⟩ l.length:=by
 have hl0:l.length≠0:=by simpa using h0
 have c1:w.drew.cell? ⟨b,1,none⟩=some (.slice (some ⟨g,0,none⟩) l.length cap):=by
  have:w.drew.heap[b]?=some (PrO p (.slice (some ⟨g,0,none⟩) l.length cap) bad):=hb
  rw [Lib.cell_of_heap this];rfl
 have hSD:(Builtin.unsafeSliceData_ #[62] 97 #[.slice (some ⟨g,0,none⟩) l.length cap]).run Tryz.prog w.drew=.ok (.pointer (some ⟨g,0,none⟩)) w.drew:=
  Lib.run_unsafeSliceData_row _ _ _ _ _ _ (by omega)
 have hUS:(Builtin.unsafeString_ #[97,3] 9 #[.pointer (some ⟨g,0,none⟩),.int .i64 l.length]).run Tryz.prog w.drew=.ok (.string (bs l)) (w.drew.freeze ⟨g,0,none⟩ l.length):=by
  have hg':w.drew.heap[g]?=some (.cells (byteCells l++sp).toArray 5 (0,0)):=hg
  refine Lib.run_unsafeString_row w.drew 97 3 9 5 Tryz.underlying97 (by kernel_rfl) g (byteCells l++sp).length (by simp [World.shape?,hg']) l h0 (by simp [byteCells_len]) (by omega) ?_
  intro j x hx
  have hlt:j < l.length:=(List.getElem?_eq_some_iff.mp hx).1
  have hx':=(List.getElem?_eq_some_iff.mp hx).2
  have e:(⟨g,0,none⟩:Addr).add j=⟨g,j,none⟩:=by unfold Addr.add;split <;> simp_all
  rw [e]
  simp [World.cell?,hg',byteCells,List.getElem?_append_left,hlt,hx']
 have mixed:Tryz.prog.follows .mixedOrders=true:=mixed
 go_enter Tryz.func18,Tryz.ntmps18
 go_wp2
 go_region_o
 all_goals (go_wp2;go_ret;exact ⟨rfl,rfl⟩)
theorem pus_none (W:World) (q:Option Addr):(Builtin.unsafeString_ #[97,3] 9 #[.pointer q,.int .i64 0]).run Tryz.prog W=.ok (.string .empty) W:=Lib.run_unsafeString_none W _ _ _ q
set_option maxHeartbeats 2000000 in
theorem pstring_nil (b:Nat) (p:Value) (bad:Bool) (w:World) (hb:w.heap[b]?=some (PrO p (.slice none 0 0) bad)) (B:Nat) :
  Calls Tryz.prog 18 #[.pointer (some ⟨b,0,none⟩)] w fun e w'=>e=.returned (.string (bs []))∧Below B w w':=by
 have hUS:=pus_none
 have c1:w.drew.cell? ⟨b,1,none⟩=some (.slice none 0 0):=by
  have:w.drew.heap[b]?=some (PrO p (.slice none 0 0) bad):=hb
  rw [Lib.cell_of_heap this];rfl
 have hSD:(Builtin.unsafeSliceData_ #[62] 97 #[.slice none 0 0]).run Tryz.prog w.drew=.ok (.pointer none) w.drew:=rfl
 have mixed:Tryz.prog.follows .mixedOrders=true:=mixed
 go_enter Tryz.func18,Tryz.ntmps18
 go_wp2
 go_region_o
 all_goals (go_wp2;go_ret;exact ⟨rfl,Below.drew (Below.refl B w)⟩)
set_option maxHeartbeats 2000000 in
theorem pstring_room (b g cap:Nat) (p:Value) (bad:Bool) (w:World) (hb:w.heap[b]?=some (PrO p (.slice (some ⟨g,0,none⟩) 0 cap) bad)) (hc:cap≠0) (B:Nat) :
  Calls Tryz.prog 18 #[.pointer (some ⟨b,0,none⟩)] w fun e w'=>e=.returned (.string (bs []))∧Below B w w':=by
 have hUS:=pus_none
 have c1:w.drew.cell? ⟨b,1,none⟩=some (.slice (some ⟨g,0,none⟩) 0 cap):=by
  have:w.drew.heap[b]?=some (PrO p (.slice (some ⟨g,0,none⟩) 0 cap) bad):=hb
  rw [Lib.cell_of_heap this];rfl
 have hSD:(Builtin.unsafeSliceData_ #[62] 97 #[.slice (some ⟨g,0,none⟩) 0 cap]).run Tryz.prog w.drew=.ok (.pointer (some ⟨g,0,none⟩)) w.drew:=
  Lib.run_unsafeSliceData_row _ _ _ _ _ _ hc
 clear hc
 have mixed:Tryz.prog.follows .mixedOrders=true:=mixed
 go_enter Tryz.func18,Tryz.ntmps18
 go_wp2
 go_region_o
 all_goals (go_wp2;go_ret;exact ⟨rfl,Below.drew (Below.refl B w)⟩)
set_option maxHeartbeats 2000000 in
theorem pstring_noroom (b g:Nat) (p:Value) (bad:Bool) (cur:Array Value) (w:World) (hb:w.heap[b]?=some (PrO p (.slice (some ⟨g,0,none⟩) 0 0) bad)) (hg:w.heap[g]?=some (.cells cur 5 (0,0))) :
  Calls Tryz.prog 18 #[.pointer (some ⟨b,0,none⟩)] w fun e w'=>e=.returned (.string (bs []))∧Below w.heap.size w w':=by
 have hUS:=pus_none
 have hlt:b < w.heap.size:=by
  rcases Nat.lt_or_ge b w.heap.size with h' | h'
  ·exact h'
  ·simp [Array.getElem?_eq_none h'] at hb
 have c1:w.drew.cell? ⟨b,1,none⟩=some (.slice (some ⟨g,0,none⟩) 0 0):=by
  have:w.drew.heap[b]?=some (PrO p (.slice (some ⟨g,0,none⟩) 0 0) bad):=hb
  rw [Lib.cell_of_heap this];rfl
 have hSD:(Builtin.unsafeSliceData_ #[62] 97 #[.slice (some ⟨g,0,none⟩) 0 0]).run Tryz.prog w.drew=.ok (.pointer (some ⟨w.drew.heap.size,0,none⟩)) (w.drew.alloc (.view ⟨g,0,none⟩ 5)):=
  Lib.run_unsafeSliceData_zero w.drew _ _ 5 Tryz.underlying97 ⟨g,0,none⟩ 0 (5,cur.size) (by have hg':w.drew.heap[g]?=some (.cells cur 5 (0,0)):=hg;simp [World.shape?,hg'])
 have c2:(w.drew.alloc (.view ⟨g,0,none⟩ 5)).cell? ⟨b,1,none⟩=some (.slice (some ⟨g,0,none⟩) 0 0):=by
  have:(w.drew.alloc (.view ⟨g,0,none⟩ 5)).heap[b]?=_:=(Lib.alloc_old w.drew _ b hlt).trans hb
  rw [Lib.cell_of_heap this];rfl
 have c3:(w.alloc (.view ⟨g,0,none⟩ 5)).drew.cell? ⟨b,1,none⟩=some (.slice (some ⟨g,0,none⟩) 0 0):=c2
 have c0:w.cell? ⟨b,1,none⟩=some (.slice (some ⟨g,0,none⟩) 0 0):=c1
 have mixed:Tryz.prog.follows .mixedOrders=true:=mixed
 go_enter Tryz.func18,Tryz.ntmps18
 go_wp2
 go_region_o
 all_goals (go_wp2;go_ret;exact ⟨rfl,(Below.drew (Below.refl _ w)).alloc (Nat.le_refl _) _⟩)
end
theorem string_does (F:Base) (b:Nat) (l:Str) (bad:Bool) {H0:Hp} (h:Pst F b l bad H0) :
  Does Tryz.prog F 18 #[.pointer (some ⟨b,0,none⟩)] H0 (fun r _=>r=.string (bs l)):=by
 obtain ⟨p,v,Ho,hp,ho,hd,hb,rfl⟩:=h
 intro w1 hw1 w hs
 have hbk:=hs.own _ List.mem_cons_self
 have hlo:=ho.lk [] (fun e he=>by cases he)
 rcases ho.out with ⟨h1,h2,rfl,rfl⟩ | ⟨g,cap,sp,rfl,rfl,hFg,hlg,hsg,hcg,hmg⟩
 ·obtain rfl:l=[]:=List.length_eq_zero_iff.1 h2
  exact (pstring_nil b p bad w hbk w.heap.size).mono fun e w' ⟨he,hbl⟩=>⟨_,_,he,hs.below hbl,rfl⟩
 ·have hgk:=hs.own (g,.cells (byteCells l++sp).toArray 5 (0,0)) (List.mem_cons_of_mem _ (List.mem_singleton.2 rfl))
  by_cases h0:l=[]
  ·subst h0
   by_cases hc0:cap=0
   ·subst hc0
    exact (pstring_noroom b g p bad _ w hbk hgk).mono fun e w' ⟨he,hbl⟩=>⟨_,_,he,hs.below hbl,rfl⟩
   ·exact (pstring_room b g cap p bad w hbk hc0 w.heap.size).mono fun e w' ⟨he,hbl⟩=>⟨_,_,he,hs.below hbl,rfl⟩
  ·refine (pstring_some b g cap p bad l sp w hbk hgk h0 hcg hmg).mono ?_
   rintro e w' ⟨rfl,rfl⟩
   have hfz:w.drew.freeze ⟨g,0,none⟩ l.length={ w.drew with heap:=w.drew.heap.modify g fun
     | .cells c elem (lo,hi)=>.cells c elem (if lo==hi then (0,0+l.length) else (min lo 0,max hi (0+l.length)))
     | o=>o }:=by unfold World.freeze;rw [if_neg (by simpa using h0)];rfl
   have hdh:w.drew.heap=w.heap:=rfl
   rw [hfz]
   have:=hs.put (b:=g) (o:=.cells (byteCells l++sp).toArray 5 (0,l.length)) (w':={ w.drew with heap:=w.drew.heap.modify g fun
     | .cells c elem (lo,hi)=>.cells c elem (if lo==hi then (0,0+l.length) else (min lo 0,max hi (0+l.length)))
     | o=>o }) ⟨_,List.mem_cons_of_mem _ (List.mem_singleton.2 rfl)⟩ rfl rfl rfl (by simp only [hdh,Array.getElem?_modify,hgk];simp) (by simp [hdh]) (fun k hk=>by simp only [hdh,Array.getElem?_modify];rw [if_neg (fun e=>hk e.symm)])
   exact ⟨_,_,rfl,this,rfl⟩
theorem expr_xw {F:Base} (hM:HasM F) (hS:HasSigns F) {cs:List Value} {x:Ex'} (h:RepX F cs x):wt x≤1048576→XW F x cs:=by
 induction h with
 | mk op v u1 u2 nm a1 c1 kids g1 vn names hu hop hk hn hl1 hc1 h1 r1 hN i1=>
  intro hw F' hF b s bad hl
  obtain ⟨⟨d1,d2,d3,rfl⟩,d4,d5,d6,rfl⟩:=hu
  refine expr_node F' (hM.mono hF) (hS.mono hF) hop hk hn hl1 hc1 (fun i t h=>(h1 i t h).mono hF) (fun i t h=>(r1 i t h).mono hF) (hN.mono hF) hw (fun i t h=>(i1 i t h ?_).mono hF) b s bad hl
  rw [wt] at hw
  have:=wtL_mem h
  omega
def ptx (x:Ex'):Str×Int:=if 50 < depX x then ([],11) else if okX x then (pt x,0) else ([],1)
theorem pexpr_pure {F:Base} (hM:HasM F) (hS:HasSigns F) {cs:List Value} {x:Ex'} (h:RepX F cs x) (hw:wt x≤1048576) :
  PureV Tryz.prog F 8 #[.agg cs.toArray] (.tuple #[.string (bs (ptx x).1),.int .i64 (ptx x).2]):=by
 have hd:=depT_pure F h hw
 have hl:=pt_len h
 have hx:=expr_xw hM hS h hw
 obtain ⟨op,k,bo,n,s1,s2,s3,d1,d2,d3,d4,d5,d6,nm,a1,n1,c1,a2,n2,c2,rfl⟩:=h.form
 refine pureV_of_svc mixed Tryz.func8 low8 (Nat.le_of_ble_eq_true rfl) (fun w0=>?_)
 simp (disch:=first | assumption | exact .symm ‹_› | omega) only [fu8,↓ZD,ZW,simprocAttr]
 refine NewB.of fun b1 hb1 hF1=>?_
 simp (disch:=first | assumption | exact .symm ‹_› | omega) only [hF1,↓ZD,ZW,simprocAttr]
 refine CallE.pure hd ?_
 by_cases h50:50 < depX x
 ·have e1:decide ((50:Int) < (depX x:Int))=true:=by simp;omega
  simp (disch:=first | assumption | exact .symm ‹_› | omega) only [e1,hF1,↓ZD,ZW,simprocAttr]
  simp [ptx,h50]
 ·have e1:decide ((50:Int) < (depX x:Int))=false:=by simp;omega
  simp (disch:=first | assumption | exact .symm ‹_› | omega) only [e1,hF1,↓ZD,ZW,simprocAttr]
  refine NewB.of fun b hb hF=>?_
  simp only [List.forall_mem_cons,List.not_mem_nil,false_implies,implies_true,and_true] at hb
  simp (disch:=first | assumption | exact .symm ‹_› | omega) only [hF1,hF,↓ZD,ZW,simprocAttr]
  refine CallE.wr [(b1,.cells #[Value.int IntKind.i64 op,Value.int IntKind.i64 k,Value.bool bo,Value.int IntKind.i64 n,Value.string (bs s1),Value.string (bs s2),Value.string (bs s3),Value.slice d1 d2 d3,Value.slice d4 d5 d6,Value.string (bs nm),Value.slice a1 n1 c1,Value.slice a2 n2 c2] 31 (0,0))] [(b,PrO (.pointer none) (.slice none 0 0) false)] (hx _ le_up b [] false (by simp only [List.length_nil];omega)) ⟨_,_,[],.inl rfl,.nil,by simp,hF,rfl⟩ (by simp +contextual) (by simp) (by simpa using Ne.symm hb) ?_
  intro H2 hp2 hd2
  have hp3:=hp2
  obtain ⟨p,v,Ho,hpp,ho,hd3,hFb,rfl⟩:=hp2
  simp only [List.forall_mem_cons,List.not_mem_nil,false_implies,implies_true,and_true] at hd2
  obtain ⟨hd20,hd21⟩:=hd2
  cases hok:okX x with
  | false=>
   simp (disch:=first | assumption | exact .symm ‹_› | omega) only [hF1,hF,hok,Bool.not_false,Bool.or_true,↓ZD,ZW,simprocAttr]
   simp [ptx,h50,hok]
  | true=>
   rw [hok] at hp3
   simp (disch:=first | assumption | exact .symm ‹_› | omega) only [hF1,hF,hok,Bool.not_true,Bool.or_false,↓ZD,ZW,simprocAttr]
   refine CallE.does ((b,PrO p v false)::Ho) [(b1,.cells #[Value.int IntKind.i64 op,Value.int IntKind.i64 k,Value.bool bo,Value.int IntKind.i64 n,Value.string (bs s1),Value.string (bs s2),Value.string (bs s3),Value.slice d1 d2 d3,Value.slice d4 d5 d6,Value.string (bs nm),Value.slice a1 n1 c1,Value.slice a2 n2 c2] 31 (0,0))] (string_does _ b (pt x) false (hp3.up (by simp only [List.forall_mem_cons,List.not_mem_nil,false_implies,implies_true,and_true];exact ⟨hd20,hd21⟩))) (fun _ _ h=>h) (by simp +contextual) (by simp +contextual) (by simp only [List.forall_mem_cons,List.not_mem_nil,false_implies,implies_true,and_true];exact ⟨hd20,hd21⟩) ?_
   rintro _ H3 rfl h1 h2 h3
   simp (disch:=first | assumption | exact .symm ‹_› | omega) only [↓ZD,ZW,simprocAttr]
   simp [ptx,h50,hok]
end Go.Proofs.YtoelfmmfjebabaaGreatDoor
