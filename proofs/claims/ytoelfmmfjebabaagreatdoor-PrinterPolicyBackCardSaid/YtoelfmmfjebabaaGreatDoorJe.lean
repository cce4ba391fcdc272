/- Joined. -/
import Derived.Test.YtoelfmmfjebabaaGreatDoorJd
set_option linter.unusedSectionVars false
namespace Go.Proofs.YtoelfmmfjebabaaGreatDoor
open Go Go.Eng
set_option maxHeartbeats 1000000
set_option linter.unusedSimpArgs false
set_option linter.unusedVariables false
set_option maxRecDepth 20000
theorem size_pure (F:Base) (a:Int) (ha:I64 a):PureV Tryz.prog F 67 #[.int .i64 a] (.int .u64 (size a)):=by
 refine pureV_of_svc mixed Tryz.func67 low67 (Nat.le_of_ble_eq_true rfl) (fun w0=>?_)
 simp (disch:=first | assumption | exact .symm ‹_› | omega) only [fu67,↓ZD,ZW,simprocAttr]
 unfold I64 at ha
 unfold size
 refine ⟨fun h=>?_,fun h=>?_⟩ <;> simp only [decide_eq_true_eq,decide_eq_false_iff_not] at h
 ·rw [if_pos h,wrap_u64,wrap_u64];congr 1;omega
 ·rw [if_neg h,wrap_u64];congr 1;omega
theorem size_bd (a:Int) (h:I64 a):0≤size a∧size a≤9223372036854775808:=by
 unfold I64 at h;unfold size;split <;> omega
def digs (n:Nat):List UInt8:=if n < 10 then [UInt8.ofNat (48+n)] else digs (n / 10)++[UInt8.ofNat (48+n % 10)]
termination_by n
decreasing_by omega
theorem digs_lt {n:Nat} (h:n < 10):digs n=[UInt8.ofNat (48+n)]:=by rw [digs,if_pos h]
theorem digs_ge {n:Nat} (h:¬ n < 10):digs n=digs (n / 10)++[UInt8.ofNat (48+n % 10)]:=by rw [digs,if_neg h]
theorem digs_len:∀ (k n:Nat),n < 10 ^ (k+1)→(digs n).length≤k+1
 | 0,n,h=>by rw [digs_lt (by omega)];simp
 | k+1,n,h=>by
  by_cases h10:n < 10
  ·rw [digs_lt h10];simp
  ·have:=digs_len k (n / 10) (by rw [Nat.pow_succ] at h;omega)
   rw [digs_ge h10];simp;omega
theorem digs_len' {n:Nat} (h:n < 18446744073709551616):(digs n).length≤20:=digs_len 19 n (by omega)
def shows (a:Int):List UInt8:=if a < 0 then 45::digs (-a).toNat else digs a.toNat
def showI (n:Nat) (x:Nat×Nat×List UInt8):Prop:=
 x.2.1+x.2.2.length=20∧x.1≤n∧x.1 < 10 ^ x.2.1∧(if x.2.2=[] then x.1=n else digs n=if x.1=0 then x.2.2 else digs x.1++x.2.2)
theorem showI_0 (a:Int) (ha:I64 a):showI (size a).toNat ((size a).toNat,20,[]):=by
 have:=size_bd a ha
 refine ⟨by simp,Nat.le_refl _,?_,by simp⟩
 show (size a).toNat < 10 ^ 20
 omega
theorem show_pure (F:Base) (a:Int) (ha:I64 a):PureV Tryz.prog F 38 #[.int .i64 a] (.string (bs (shows a))):=by
 refine pureV_of_svc mixed Tryz.func38 low38 (Nat.le_of_ble_eq_true rfl) (fun w0=>?_)
 simp (disch:=first | assumption | exact .symm ‹_› | omega) only [fu38,↓ZD,ZW,simprocAttr]
 refine NewB.of fun b1 hb1 hF1=>?_
 simp (disch:=first | assumption | exact .symm ‹_› | omega) only [hF1,↓ZD,ZW,simprocAttr]
 refine CallE.pure (size_pure F a ha) ?_
 simp (disch:=first | assumption | exact .symm ‹_› | omega) only [hF1,↓ZD,ZW,simprocAttr]
 refine LoopL.inv (α:=Nat×Nat×List UInt8) (showI (size a).toNat)
  (fun x=>[(0,some (.int .i64 a)),(2,some (.string (bs []))),(3,some (.pointer (some ⟨b1,0,none⟩))),(4,some (.int .i64 x.2.1)),(5,some (.int .u64 x.1))])
  (fun x=>[(b1,.cells (byteCells (List.replicate x.2.1 0++x.2.2)).toArray 125 (0,0))])
  (fun x=>x.2.1) ((size a).toNat,20,[]) (showI_0 a ha) ?_ ?_ ?_
 ·have:=size_bd a ha
  have e:(((size a).toNat:Nat):Int)=size a:=by omega
  simp only [Le_nil,Le_cons,e]
  simp (disch:=first | assumption | exact .symm ‹_› | omega) only [↓ZD,ZW,simprocAttr]
 ·refine ⟨by simp (disch:=first | assumption | exact .symm ‹_› | omega) only [↓ZD,ZW,simprocAttr];rfl,trivial⟩
 ·rintro ⟨u,i,S⟩ hI
  obtain ⟨hl,hun,hu,hd⟩:=hI
  simp only at hl hun hu hd ⊢
  have hsz:=size_bd a ha
  have hdt:((byteCells (List.replicate i 0++S)).drop i).take (20 - i)=byteCells S:=by
   rw [byteCells_drop,byteCells_take];congr 1
   rw [List.drop_left' (by simp),List.take_of_length_le (by omega)]
  simp (disch:=first | assumption | exact .symm ‹_› | omega) only [hF1,↓ZD,ZW,simprocAttr]
  refine ⟨fun h=>?_,fun h=>?_⟩
  ·have hi:0 < i:=by
    cases i with
    | zero=>
     have:u=0:=by simp at hu;omega
     subst this
     simp at h
    | succ j=>omega
   have hi1:(i:Int) - 1=((i - 1:Nat):Int):=by omega
   refine conj.of (by omega) ?_
   have hle:decide (i - 1+1≤i+S.length)=true:=by simp;omega
   have hst:List.take (i - 1) (byteCells (List.replicate i 0++S))++[Value.int IntKind.u8 (48+(u:Int) % 10)]++List.drop (i - 1+1) (byteCells (List.replicate i 0++S))=byteCells (List.replicate (i - 1) 0++(UInt8.ofNat (48+u % 10))::S):=by
    have e1:List.replicate i (0:UInt8)=List.replicate (i - 1) 0++[0]:=by
     obtain ⟨j,rfl⟩:∃ j,i=j+1:=⟨i - 1,by omega⟩
     simp [List.replicate_succ']
    have t1:(List.replicate i (0:UInt8)++S).take (i - 1)=List.replicate (i - 1) 0:=by
     rw [e1,List.append_assoc];exact List.take_left' (by simp)
    have t2:(List.replicate i (0:UInt8)++S).drop (i - 1+1)=S:=List.drop_left' (by simp;omega)
    rw [byteCells_take,byteCells_drop,t1,t2]
    have e2:(48+(u:Int) % 10)=(((UInt8.ofNat (48+u % 10)).toNat:Nat):Int):=by
     simp only [UInt8.toNat_ofNat'];omega
    rw [e2]
    simp only [byteCells,List.map_append,List.map_cons,List.append_assoc,List.cons_append,List.nil_append]
   simp (disch:=first | assumption | exact .symm ‹_› | omega) only [hF1,hi1,hle,hst,Nat.mul_one,Int.toNat_natCast,List.length_append,List.length_replicate,↓ZD,ZW,simprocAttr]
   have hp:10 ^ i=10 * 10 ^ (i - 1):=by
    obtain ⟨j,rfl⟩:∃ j,i=j+1:=⟨i - 1,by omega⟩
    simp [Nat.pow_succ];omega
   refine invK.on (u / 10,i - 1,UInt8.ofNat (48+u % 10)::S) ⟨?_,?_,?_,?_⟩ ?_ ?_ ?_
   ·show i - 1+(S.length+1)=20
    omega
   ·show u / 10≤_
    omega
   ·show u / 10 < 10 ^ (i - 1)
    omega
   ·show (if UInt8.ofNat (48+u % 10)::S=[] then _ else digs (size a).toNat=if u / 10=0 then UInt8.ofNat (48+u % 10)::S else digs (u / 10)++UInt8.ofNat (48+u % 10)::S)
    rw [if_neg (by simp)]
    have hdu:digs u++S=if u / 10=0 then UInt8.ofNat (48+u % 10)::S else digs (u / 10)++UInt8.ofNat (48+u % 10)::S:=by
     split
     ·rw [digs_lt (by omega),Nat.mod_eq_of_lt (by omega)];rfl
     ·rw [digs_ge (by omega),List.append_assoc];rfl
    rw [← hdu]
    split at hd
    ·subst hd;rename_i hS;subst hS;simp
    ·split at hd
     ·subst u
      exfalso
      have:i=20:=by simp at h;omega
      have:S.length=0:=by omega
      simp at this;contradiction
     ·exact hd
   ·show i - 1 < i
    omega
   ·have hw:IntKind.u64.wrap ((u:Int) / 10)=((u / 10:Nat):Int):=by rw [wrap_u64];omega
    simp only [Le_nil,Le_cons,hw]
    simp (disch:=first | assumption | exact .symm ‹_› | omega) only [↓ZD,ZW,simprocAttr]
    rfl
   ·simp only [HLe_nil,HLe_cons]
    simp (disch:=first | assumption | exact .symm ‹_› | omega) only [↓ZD,ZW,simprocAttr]
  ·have hi20:i≠20:=by
    rintro rfl;simp at h
   refine conj.of (by omega) ?_
   have hu0:u=0:=by
    simp at h;exact h.2
   have hle:i+(20 - i)≤i+S.length:=by omega
   have hn:((20:Int) - (i:Int)).toNat=20 - i:=by omega
   simp (disch:=first | assumption | exact .symm ‹_› | omega) only [hF1,hdt,hle,hn,Nat.mul_one,Int.toNat_natCast,List.length_append,List.length_replicate,↓ZD,ZW,simprocAttr]
   have hS:S≠[]:=by rintro rfl;simp at hl;omega
   rw [if_neg hS,if_pos hu0] at hd
   unfold shows
   unfold size at hd
   refine ⟨fun h=>?_,fun h=>?_⟩
   ·refine conj.of (by omega) ?_
    simp at h
    rw [if_pos h] at hd ⊢
    rw [hd]
    simp (disch:=first | assumption | exact .symm ‹_› | omega) only [↓ZD,ZW,simprocAttr]
   ·simp at h
    rw [if_neg (by omega)] at hd ⊢
    rw [hd]
structure Scp where
 kind:Int
 ty:Str
 ut:Str
 ui:Str
 slot:Bool
 list:List (Str×Str)
structure Pol where
 id:Str
 permit:Bool
 p:Scp
 a:Scp
 r:Scp
 conds:List (Bool×Ex')
def sc0:Scp:=⟨0,[],[],[],false,[]⟩
def prN:Str:=[112,114,105,110,99,105,112,97,108]
def reN:Str:=[114,101,115,111,117,114,99,101]
def actN:Str:=[97,99,116,105,111,110]
def failA (s:St) (e bad:Int):St:=if s.e=0 then ⟨s.p,s.deep,e,bad⟩ else s
def mustsS (ws:Ws) (s:St) (l:List Str):St:=l.foldl (mustS ws) s
def uidP (ws:Ws) (s:St):(Str×Str)×St:=
 if s.e=0 then (if (uidR ws s.p).2.2.1=0 then ((uidR ws s.p).1,⟨(uidR ws s.p).2.1,s.deep,s.e,s.bad⟩) else (([],[]),⟨s.p,s.deep,(uidR ws s.p).2.2.1,(uidR ws s.p).2.2.2⟩)) else (([],[]),s)
def placeP (ws:Ws) (s:St) (x:Scp) (nm:Str):Scp×St:=
 if s.e=0∧wk ws s=4 then (⟨x.kind,x.ty,x.ut,x.ui,true,x.list⟩,adv (if wtx ws s=nm then s else failS ws s 32))
 else (⟨x.kind,x.ty,(uidP ws s).1.1,(uidP ws s).1.2,x.slot,x.list⟩,(uidP ws s).2)
def kindS (k:Int) (ty:Str):Scp:=⟨k,ty,[],[],false,[]⟩
def scopeP (ws:Ws) (s:St) (nm:Str):Scp×St:=
 let s1:=mustS ws s nm
 if isS ws s1 [61,61] then placeP ws (adv s1) (kindS 1 []) nm
 else if isS ws s1 [105,110] then placeP ws (adv s1) (kindS 2 []) nm
 else if isS ws s1 [105,115] then
  let t:=pathS ws (adv s1)
  if isS ws t.2 [105,110] then placeP ws (adv t.2) (kindS 4 t.1) nm else (kindS 3 t.1,t.2)
 else (sc0,s1)
def uidsF (ws:Ws):Nat→St→List (Str×Str)→List (Str×Str)×St
 | 0,s,l=>(l,s)
 | n+1,s,l=>if isS ws (uidP ws s).2 [44] then uidsF ws n (adv (uidP ws s).2) (l++[(uidP ws s).1]) else (l++[(uidP ws s).1],(uidP ws s).2)
def actUid (k:Int) (u:(Str×Str)×St):Scp×St:=(⟨k,[],u.1.1,u.1.2,false,[]⟩,u.2)
def actionP (ws:Ws) (s:St):Scp×St:=
 let s1:=mustS ws s actN
 if isS ws s1 [61,61] then actUid 1 (uidP ws (adv s1))
 else if isS ws s1 [105,110]=false then (sc0,s1)
 else if isS ws (adv s1) [91]=false then actUid 2 (uidP ws (adv s1))
 else if isS ws (adv (adv s1)) [93] then (kindS 5 [],adv (adv (adv s1)))
 else (⟨5,[],[],[],false,(uidsF ws (ws.length+1) (adv (adv s1)) []).1⟩,mustS ws (uidsF ws (ws.length+1) (adv (adv s1)) []).2 [93])
mutual
def hasSl:Ex'→Str→Bool
 | .mk op _ nm kids _,t=>(op==3&&nm==t)||hasSlL kids t
def hasSlL:List Ex'→Str→Bool
 | [],_=>false
 | x::l,t=>hasSl x t||hasSlL l t
end
def condP (ws:Ws) (x:Pol) (wh:Bool) (s:St):Pol×St:=
 let s1:=mustS ws s [123]
 if s1.e≠0 then (x,s1)
 else
  let R:=readS ws s1.p
  if R.2.2.1≠0 then (x,⟨s1.p,s1.deep,R.2.2.1,R.2.2.2⟩)
  else
   let f:=((wdAt ws s1.p).2:Int)
   let s2:=mustS ws ⟨R.2.1,s1.deep,s1.e,s1.bad⟩ [125]
   let s3:=if 50 < depX R.1 then failA s2 11 f else s2
   let s4:=if (!x.p.slot&&hasSl R.1 prN)||(!x.r.slot&&hasSl R.1 reN) then failA s3 32 f else s3
   (⟨x.id,x.permit,x.p,x.a,x.r,x.conds++[(wh,R.1)]⟩,s4)
def whenT:Str:=[119,104,101,110]
def unlT:Str:=[117,110,108,101,115,115]
def condsF (ws:Ws):Nat→Pol→St→Pol×St
 | 0,x,s=>(x,s)
 | n+1,x,s=>
  if s.e≠0 then (x,s)
  else if isS ws s whenT then condsF ws n (condP ws x true (adv s)).1 (condP ws x true (adv s)).2
  else if isS ws s unlT then condsF ws n (condP ws x false (adv s)).1 (condP ws x false (adv s)).2
  else (x,mustS ws s [59])
def idP (ws:Ws) (n:Int) (s:St):Str×St:=
 if isS ws s [64] then
  let t:=takeS ws (mustS ws (mustS ws (adv s) [105,100]) [40]) 3
  (t.1,mustS ws t.2 [41])
 else ([112,111,108,105,99,121]++shows n,s)
def permT:Str:=[112,101,114,109,105,116]
def forbT:Str:=[102,111,114,98,105,100]
def headP (ws:Ws) (n:Int) (s:St):Pol×St:=
 let i:=idP ws n s
 let b:=isS ws i.2 permT
 let s2:=if b then adv i.2 else mustS ws i.2 forbT
 let p:=scopeP ws (mustS ws s2 [40]) prN
 let a:=actionP ws (mustS ws p.2 [44])
 let r:=scopeP ws (mustS ws a.2 [44]) reN
 (⟨i.1,b,p.1,a.1,r.1,[]⟩,mustS ws r.2 [41])
def policyP (ws:Ws) (n:Int) (s:St):Pol×St:=condsF ws (ws.length+1) (headP ws n s).1 (headP ws n s).2
def polsF (ws:Ws):Nat→List Pol→St→List Pol×St
 | 0,l,s=>(l,s)
 | n+1,l,s=>if wk ws s=0 then (l,s) else if (policyP ws l.length s).2.e≠0 then ([],(policyP ws l.length s).2) else polsF ws n (l++[(policyP ws l.length s).1]) (policyP ws l.length s).2
def twiceB:List Str→Bool
 | []=>false
 | x::l=>l.contains x||twiceB l
def polsL (ws:Ws):List Pol×Int×Int:=
 let r:=polsF ws (ws.length+1) [] (st0 0)
 if r.2.e≠0 then ([],r.2.e,r.2.bad) else if twiceB (r.1.map Pol.id) then ([],13,0) else (r.1,0,0)
def polsS (s:Str):List Pol×Int×Int:=if 65536 < s.length then ([],12,0) else match words s with
 | .error y=>([],y.1,y.2)
 | .ok l=>polsL l
abbrev RdP (l:Value) (p:St):Obj:=.cells #[l,.int .i64 p.p,.int .i64 p.e,.int .i64 p.bad] 71 (0,0)
def EndW (ws:Ws):Prop:=(ws.getD (ws.length - 1) ((0,[],0),0)).1=(0,[],0)
theorem wdAt_end {ws:Ws} (hE:EndW ws) {p:Int} (h:¬ (0≤p∧p < ws.length)):wdAt ws p=ws.getD (ws.length - 1) ((0,[],0),0):=by
 rw [wdAt_out h]
 exact Prod.ext hE.symm rfl
theorem pword_pure (F:Base) {ws:Ws} {l:Value} (hW:HasW F ws l) (hE:EndW ws) {b:Nat} {p:St} (hp:0≤p.p) (hb:F b=some (RdP l p)):PureV Tryz.prog F 19 #[.pointer (some ⟨b,0,none⟩)] (.agg (wdV (wdAt ws p.p).1 (wdAt ws p.p).2).toArray):=by
 obtain ⟨bw,cap,sp,T,fz,rfl,hFw,hc,hm,hne⟩:=hW
 have hpos:0 < ws.length:=List.length_pos_iff.2 hne
 refine pureV_of_svc (args:=[.pointer (some ⟨b,0,none⟩)]) mixed Tryz.func19 low19 (Nat.le_of_ble_eq_true rfl) (fun w0=>?_)
 simp only [fu19,↓ZD,ZW,simprocAttr]
 refine NewB.of fun b2 hb2 hF2=>?_
 obtain ⟨i,hi,hm2,hw⟩:∃ i:Nat,i < ws.length∧(if (ws.length:Int) - 1 < p.p then (ws.length:Int) - 1 else p.p)=i∧wdAt ws p.p=ws.getD i ((0,[],0),0):=by
  by_cases h:p.p < ws.length
  ·refine ⟨p.p.toNat,by omega,by rw [if_neg (by omega)];omega,?_⟩
   have:=wdAt_in (ws:=ws) (i:=p.p.toNat) (by omega)
   rwa [show ((p.p.toNat:Nat):Int)=p.p by omega] at this
  ·exact ⟨ws.length - 1,by omega,by rw [if_pos (by omega)];omega,wdAt_end hE (by omega)⟩
 have hld:=wds_at (sp:=sp) (T:=T) (fz:=fz) hi
 rw [hw]
 simp (disch:=first | assumption | exact .symm ‹_› | omega) only [hb,hF2,hm2,hFw,hld,Int.toNat_natCast,wdV,↓ZD,ZW,simprocAttr]
 refine conj.of (by omega) ?_
 simp (disch:=first | assumption | exact .symm ‹_› | omega) only [hb,hF2,hm2,hFw,hld,Int.toNat_natCast,wdV,↓ZD,ZW,simprocAttr]
theorem pis_pure (F:Base) {ws:Ws} {l:Value} (hW:HasW F ws l) (hE:EndW ws) {b:Nat} {p:St} (hp:0≤p.p) (hb:F b=some (RdP l p)) (t:Str):PureV Tryz.prog F 68 #[.pointer (some ⟨b,0,none⟩),.string (bs t)] (.bool (isS ws p t)):=by
 refine pureV_of_svc (args:=[.pointer (some ⟨b,0,none⟩),.string (bs t)]) mixed Tryz.func68 low68 (Nat.le_of_ble_eq_true rfl) (fun w0=>?_)
 simp only [fu68,↓ZD,ZW,simprocAttr]
 refine CallE.pure (pword_pure F hW hE hp hb) ?_
 simp only [hb,wdV,↓ZD,ZW,simprocAttr]
 refine NewB.of fun b2 hb2 hF2=>?_
 simp (disch:=first | assumption | exact .symm ‹_› | omega) only [hb,hF2,wdV,↓ZD,ZW,simprocAttr]
 simp [isS,wk,wtx]
def Rp1 (F:Base) (l:Value) (f:Nat) (args:List Value) (b:Nat) (p:St) (r:Value) (p':St):Prop:=Does Tryz.prog F f (.pointer (some ⟨b,0,none⟩)::args).toArray [(b,RdP l p)] (fun v H'=>v=r∧H'=[(b,RdP l p')])
theorem CallE.rp1 {X:List Nat} {F:Base} {w0:World} {l:Value} {f:Nat} {args:List Value} {b:Nat} {p p':St} {r:Value} {H:Hp} {K:Value→Hp→Prop} (Hl:Hp) (h:Rp1 (rdObj F Hl) l f args b p r p')
  (hb:(b,RdP l p)∈H) (hl:∀ e∈Hl,e∈H) (nl:∀ e∈Hl,e.1≠b) (hk:K r ((b,RdP l p')::Hl)):@CallE Tryz.prog X F w0 f (.pointer (some ⟨b,0,none⟩)::args).toArray H ⟨K⟩:=
 CallG.shr (K:=fun v H'=>v=r∧H'=Hl++[(b,RdP l p')]) (@CallE.does Tryz.prog X F (rdObj F Hl) w0 f _ H _ _ [(b,RdP l p)] Hl h (fun _ _ h=>h) (by simpa using hb) hl (by simpa using fun a o h=>(nl (a,o) h).symm) (fun v H' ⟨h1,h2⟩ _ _ _=>⟨h1,by rw [h2]⟩))
  fun v H' ⟨h1,h2⟩=>⟨(b,RdP l p')::Hl,by rw [h2];simp +contextual,by rw [h1];exact hk⟩
theorem pfail_rd (F:Base) {l:Value} {b:Nat} (hFb:F b=none) (p:St) (e a:Int):Rp1 F l 69 [.int .i64 e,.int .i64 a] b p (.tuple #[]) (failA p e a):=by
 refine does_of_svc (args:=[.pointer (some ⟨b,0,none⟩),.int .i64 e,.int .i64 a]) mixed Tryz.func69 low69 (Nat.le_of_ble_eq_true rfl) (fun w0 hw0=>?_)
 simp only [fu69,hFb,↓ZD,ZW,simprocAttr]
 unfold failA
 by_cases h:p.e=0
 ·have hd:(p.e==0)=true:=by simpa using h
  rw [if_pos h]
  simp only [hd,hFb,↓ZD,ZW,simprocAttr]
 ·have hd:(p.e==0)=false:=by simpa using h
  rw [if_neg h]
  simp only [hd,hFb,↓ZD,ZW,simprocAttr]
theorem pskip_rd (F:Base) {ws:Ws} {l:Value} (hW:HasW F ws l) (hE:EndW ws) {b:Nat} (hFb:F b=none) {p:St} (hp:0≤p.p) (t:Str):Rp1 F l 39 [.string (bs t)] b p (.bool (isS ws p t)) (if isS ws p t then adv p else p):=by
 have hb:rdObj F [(b,RdP l p)] b=some (RdP l p):=by simp [rdObj,hFb,lk]
 obtain ⟨bw,cap,sp,T,fz,rfl,hFw,hc,hm,hne⟩:=id hW
 refine does_of_svc (args:=[.pointer (some ⟨b,0,none⟩),.string (bs t)]) mixed Tryz.func39 low39 (Nat.le_of_ble_eq_true rfl) (fun w0 hw0=>?_)
 simp only [fu39,hFb,↓ZD,ZW,simprocAttr]
 refine CallE.pureH (pis_pure _ (hW.mono le_up) hE hp hb t) ?_
 simp only [hFb,↓ZD,ZW,simprocAttr]
 cases h:isS ws p t with
 | false=>simp only [hFb,h,↓ZD,ZW,simprocAttr]
 | true=>
  have h1:=isS_range h
  simp (disch:=first | assumption | exact .symm ‹_› | omega) only [hFb,h,adv,↓ZD,ZW,simprocAttr]
theorem mustS_p {ws:Ws} {p:St} {t:Str} (h:0≤p.p):0≤(mustS ws p t).p:=by
 unfold mustS adv failS
 split
 ·show (0:Int)≤p.p+1;omega
 ·split <;> exact h
theorem failA_S {ws:Ws} {s:St} {e:Int}:failA s e (wdAt ws s.p).2=failS ws s e:=rfl
theorem mustsS_p {ws:Ws}:∀ {l:List Str} {p:St},0≤p.p→0≤(mustsS ws p l).p
 | [],_,h=>h
 | t::l,p,h=>mustsS_p (l:=l) (mustS_p h)
theorem mustsS_snoc {ws:Ws} {p:St} {l:List Str} {i:Nat} {t:Str} (h:l[i]?=some t):mustsS ws p (l.take (i+1))=mustS ws (mustsS ws p (l.take i)) t:=by
 unfold mustsS;rw [take_snoc h,List.foldl_append];rfl
theorem pmust_rd (F:Base) {ws:Ws} {l:Value} (hW:HasW F ws l) (hE:EndW ws) {b:Nat} (hFb:F b=none) {p:St} (hp:0≤p.p) {v:Value} {ts:List Str} (hT:SlS F v ts):Rp1 F l 40 [v] b p (.tuple #[]) (mustsS ws p ts):=by
 obtain ⟨a1,c1,rfl,hc1,hl1,h1,-⟩:=hT
 refine does_of_svc (args:=[.pointer (some ⟨b,0,none⟩),.slice a1 ts.length c1]) mixed Tryz.func40 low40 (Nat.le_of_ble_eq_true rfl) (fun w0 hw0=>?_)
 simp only [fu40,hFb,↓ZD,ZW,simprocAttr]
 refine LoopL.inv (α:=Nat) (fun i=>i≤ts.length) (fun i=>[(0,some (.pointer (some ⟨b,0,none⟩))),(6,some (.slice a1 ts.length c1)),(7,some (.int .i64 ts.length)),(8,some (.int .i64 i))])
  (fun i=>[(b,RdP l (mustsS ws p (ts.take i)))]) (fun i=>ts.length - i) 0 (Nat.zero_le _) (by (simp (disch:=first | assumption | exact .symm ‹_› | omega) only [↓ZD,ZW,simprocAttr];try trivial)) (by (try (simp (disch:=first | assumption | exact .symm ‹_› | omega) only [↓ZD,ZW,simprocAttr]);try trivial)) ?_
 rintro i hi
 by_cases hlt:i < ts.length
 ·have hd:decide ((i:Int) < (ts.length:Int))=true:=by simp;omega
  have gx:=getS hlt
  obtain ⟨ba,oa,rfl,hla⟩:=(h1 i _ gx).ld1
  have hm:=mustsS_snoc (ws:=ws) (p:=p) gx
  have hq:=mustsS_p (ws:=ws) (l:=ts.take i) hp
  generalize ts.getD i []=t at *
  generalize mustsS ws p (ts.take i)=q at *
  simp (disch:=first | assumption | exact .symm ‹_› | omega) only [hd,hFb,↓ZD,ZW,simprocAttr]
  refine conj.of (by omega) ?_
  simp (disch:=first | assumption | exact .symm ‹_› | omega) only [hd,hFb,Int.toNat_natCast,↓hla,↓ZD,ZW,simprocAttr]
  refine CallE.rp1 [] (pskip_rd _ (hW.mono le_up) hE (rdObj_none hFb (by simp)) hq t) List.mem_cons_self (by simp) (by simp) ?_
  unfold mustS at hm
  have hb:rdObj F [(b,RdP l q)] b=some (RdP l q):=by simp [rdObj,hFb,lk]
  cases h:isS ws q t with
  | true=>
   rw [h,if_pos rfl] at hm
   simp (disch:=first | assumption | exact .symm ‹_› | omega) only [hd,hFb,↓ZD,ZW,simprocAttr]
   refine invK.on (i+1) (by omega) (by omega) (by (simp (disch:=first | assumption | exact .symm ‹_› | omega) only [↓ZD,ZW,simprocAttr];try trivial)) ?_
   rw [hm]
   exact ⟨by simp [lk],trivial⟩
  | false=>
   rw [h,if_neg (by simp)] at hm
   simp (disch:=first | assumption | exact .symm ‹_› | omega) only [hd,hFb,↓ZD,ZW,simprocAttr]
   refine CallE.pureH (pword_pure _ (hW.mono le_up) hE hq hb) ?_
   simp (disch:=first | assumption | exact .symm ‹_› | omega) only [hd,hFb,wf3,wsz,↓ZD,ZW,simprocAttr]
   refine CallE.rp1 [] (pfail_rd _ (l:=l) (rdObj_none hFb (by simp)) q 10 _) List.mem_cons_self (by simp) (by simp) ?_
   simp (disch:=first | assumption | exact .symm ‹_› | omega) only [hd,hFb,↓ZD,ZW,simprocAttr]
   refine invK.on (i+1) (by omega) (by omega) (by (simp (disch:=first | assumption | exact .symm ‹_› | omega) only [↓ZD,ZW,simprocAttr];try trivial)) ?_
   rw [hm]
   exact ⟨by simp [lk,failA_S],trivial⟩
 ·have hd:decide ((i:Int) < (ts.length:Int))=false:=by simp;omega
  obtain rfl:i=ts.length:=by omega
  simp (disch:=first | assumption | exact .symm ‹_› | omega) only [hd,hFb,List.take_length,↓ZD,ZW,simprocAttr]
theorem pquoted_rd (F:Base) {ws:Ws} {l:Value} (hW:HasW F ws l) (hE:EndW ws) {b:Nat} (hFb:F b=none) {p:St} (hp:0≤p.p):Rp1 F l 41 [] b p (.string (bs (takeS ws p 3).1)) (takeS ws p 3).2:=by
 have hb:rdObj F [(b,RdP l p)] b=some (RdP l p):=by simp [rdObj,hFb,lk]
 obtain ⟨bw,cap,sp,T,fz,rfl,hFw,hc,hm,hne⟩:=id hW
 refine Does.shr (K:=fun v H'=>v=.string (bs (takeS ws p 3).1)∧(b,RdP (.slice (some ⟨bw,0,none⟩) ws.length cap) (takeS ws p 3).2)∈H') ?_ fun v H' ⟨h1,h2⟩=>⟨[_],by simpa using h2,h1,rfl⟩
 refine does_of_svc (args:=[.pointer (some ⟨b,0,none⟩)]) mixed Tryz.func41 low41 (Nat.le_of_ble_eq_true rfl) (fun w0 hw0=>?_)
 simp only [fu41,hFb,↓ZD,ZW,simprocAttr]
 refine CallE.pureH (pword_pure _ (hW.mono le_up) hE hp hb) ?_
 simp only [hFb,wdV,↓ZD,ZW,simprocAttr]
 refine NewB.of fun b2 hb2 hF2=>?_
 simp only [List.forall_mem_cons,List.not_mem_nil,false_implies,implies_true,and_true] at hb2
 simp only [hFb,hF2,wdV,↓ZD,ZW,simprocAttr]
 unfold takeS
 by_cases h:p.e=0∧wk ws p=3
 ·have h1:(p.e != 0)=false:=by simpa using h.1
  have h2:((((wdAt ws p.p).1.1:Nat):Int) != 3)=false:=by simpa [wk] using h.2
  have hr:=in_range (ws:=ws) (p:=p.p) (by have:=h.2;unfold wk at this;omega)
  rw [if_pos h]
  simp (disch:=first | assumption | exact .symm ‹_› | omega) only [hFb,hF2,h1,h2,adv,↓ZD,ZW,simprocAttr]
  simp [wtx]
 ·have h1:(p.e != 0||(((wdAt ws p.p).1.1:Nat):Int) != 3)=true:=by
   rw [Bool.or_eq_true,bne_iff_ne,bne_iff_ne]
   by_cases h3:p.e=0
   ·exact .inr fun h4=>h ⟨h3,h4⟩
   ·exact .inl h3
  rw [if_neg h]
  simp (disch:=first | assumption | exact .symm ‹_› | omega) only [hFb,hF2,h1,↓ZD,ZW,simprocAttr]
  refine CallE.does [(b,RdP (.slice (some ⟨bw,0,none⟩) ws.length cap) p)] [] (pfail_rd F hFb p 10 _) (fun _ _ h=>by simp [rdObj,h]) (by simp) (fun e h=>by cases h) (fun e h=>by cases h) ?_
  rintro _ _ ⟨rfl,rfl⟩ - - -
  simp only [hFb,↓ZD,ZW,simprocAttr]
  simp [failA_S]
theorem pown_pure (F:Base) (s:Str):PureV Tryz.prog F 91 #[.string (bs s)] (.bool (decide (s∈ownL))):=by
 refine pureV_of_svc mixed Tryz.func91 low91 (Nat.le_of_ble_eq_true rfl) (fun w0=>?_)
 by_cases h:s∈ownL
 ·rw [decide_eq_true h]
  simp only [ownL,List.mem_cons,List.not_mem_nil,or_false] at h
  rcases h with rfl | rfl | rfl | rfl | rfl | rfl | rfl | rfl <;> simp (disch:=first | assumption | exact .symm ‹_› | omega) only [fu91,↓ZD,ZW,simprocAttr] <;> simp
 ·rw [decide_eq_false h]
  simp only [ownL,List.mem_cons,List.not_mem_nil,or_false,not_or] at h
  obtain ⟨h1,h2,h3,h4,h5,h6,h7,h8⟩:=h
  have k:∀ x y:Str,x≠y→(x==y)=false:=fun x y h=>by simpa using h
  simp (disch:=first | assumption | exact .symm ‹_› | omega) only [fu91,k _ _ h1,k _ _ h2,k _ _ h3,k _ _ h4,k _ _ h5,k _ _ h6,k _ _ h7,k _ _ h8,↓ZD,ZW,simprocAttr]
theorem puid_rd (F:Base) {ws:Ws} (hws:WsOk ws) {l:Value} (hW:HasW F ws l) {b:Nat} (hFb:F b=none) (p:St):Rp1 F l 72 [] b p (.agg #[.string (bs (uidP ws p).1.1),.string (bs (uidP ws p).1.2)]) (uidP ws p).2:=by
 obtain ⟨bw,cap,sp,T,fz,rfl,hFw,hc,hm,hne⟩:=id hW
 refine Does.shr (K:=fun v H'=>v=.agg #[.string (bs (uidP ws p).1.1),.string (bs (uidP ws p).1.2)]∧(b,RdP (.slice (some ⟨bw,0,none⟩) ws.length cap) (uidP ws p).2)∈H') ?_ fun v H' ⟨h1,h2⟩=>⟨[_],by simpa using h2,h1,rfl⟩
 refine does_of_svc (args:=[.pointer (some ⟨b,0,none⟩)]) mixed Tryz.func72 low72 (Nat.le_of_ble_eq_true rfl) (fun w0 hw0=>?_)
 simp only [fu72,hFb,↓ZD,ZW,simprocAttr]
 refine NewB.of fun b2 hb2 hF2=>?_
 simp only [List.forall_mem_cons,List.not_mem_nil,false_implies,implies_true,and_true] at hb2
 unfold uidP
 by_cases he:p.e=0
 ·have hd:(p.e != 0)=false:=by simpa using he
  rw [if_pos he]
  simp (disch:=first | assumption | exact .symm ‹_› | omega) only [hFb,hF2,hd,↓ZD,ZW,simprocAttr]
  refine CallQ.of _ (uid_pure _ hws (hW.mono le_up) p.p) ?_
  generalize uidR ws p.p=R
  simp (disch:=first | assumption | exact .symm ‹_› | omega) only [hFb,hF2,hd,↓ZD,ZW,simprocAttr]
  refine NewB.of fun b3 hb3 hF3=>?_
  simp only [List.forall_mem_cons,List.not_mem_nil,false_implies,implies_true,and_true] at hb3
  obtain ⟨n1,n2⟩:=hb3
  by_cases h0:R.2.2.1=0
  ·have hd2:(R.2.2.1 != 0)=false:=by simpa using h0
   rw [if_pos h0]
   simp (disch:=first | assumption | exact .symm ‹_› | omega) only [hFb,hF2,hF3,hd2,↓ZD,ZW,simprocAttr]
   simp
  ·have hd2:(R.2.2.1 != 0)=true:=by simpa using h0
   rw [if_neg h0]
   simp (disch:=first | assumption | exact .symm ‹_› | omega) only [hFb,hF2,hF3,hd2,↓ZD,ZW,simprocAttr]
   refine CallE.rp1 [(b2,.cells #[.string (bs []),.string (bs [])] 24 (0,0))] (pfail_rd _ (l:=.slice (some ⟨bw,0,none⟩) ws.length cap) (rdObj_none hFb (by simpa using Ne.symm hb2)) p R.2.2.1 R.2.2.2) (by simp) (by simp) (by simpa using Ne.symm hb2) ?_
   simp (disch:=first | assumption | exact .symm ‹_› | omega) only [hFb,hF2,hF3,hd2,↓ZD,ZW,simprocAttr]
   simp [failA,he]
 ·have hd:(p.e != 0)=true:=by simpa using he
  rw [if_neg he]
  simp (disch:=first | assumption | exact .symm ‹_› | omega) only [hFb,hF2,hd,↓ZD,ZW,simprocAttr]
  simp
abbrev ScO (x:Scp) (v:Value):Obj:=.cells #[.int .i64 x.kind,.string (bs x.ty),.string (bs x.ut),.string (bs x.ui),.bool x.slot,v] 48 (0,0)
def PlaceD (F:Base) (ws:Ws) (l:Value) (b s:Nat) (p:St) (x:Scp) (v:Value) (nm:Str):Prop:=
 Does Tryz.prog F 70 #[.pointer (some ⟨b,0,none⟩),.pointer (some ⟨s,0,none⟩),.string (bs nm)] [(b,RdP l p),(s,ScO x v)] (fun r H'=>r=.tuple #[]∧H'=[(b,RdP l (placeP ws p x nm).2),(s,ScO (placeP ws p x nm).1 v)])
theorem pplace_does (F:Base) {ws:Ws} (hws:WsOk ws) {l:Value} (hW:HasW F ws l) (hE:EndW ws) {b s:Nat} (hbs:b≠s) (hFb:F b=none) (hFs:F s=none) {p:St} (hp:0≤p.p) (x:Scp) {v:Value} (hv:oneCell v=true) (nm:Str):PlaceD F ws l b s p x v nm:=by
 have hb:rdObj F [(b,RdP l p),(s,ScO x v)] b=some (RdP l p):=by simp [rdObj,hFb,lk]
 obtain ⟨bw,cap,sp,T,fz,rfl,hFw,hc,hm,hne⟩:=id hW
 refine Does.shr (K:=fun r H'=>r=.tuple #[]∧(b,RdP (.slice (some ⟨bw,0,none⟩) ws.length cap) (placeP ws p x nm).2)∈H'∧(s,ScO (placeP ws p x nm).1 v)∈H') ?_ fun r H' ⟨h1,h2,h3⟩=>⟨[_,_],by simpa using ⟨h2,h3⟩,h1,rfl⟩
 refine does_of_svc (args:=[.pointer (some ⟨b,0,none⟩),.pointer (some ⟨s,0,none⟩),.string (bs nm)]) mixed Tryz.func70 low70 (Nat.le_of_ble_eq_true rfl) (fun w0 hw0=>?_)
 simp only [fu70,hFb,hFs,↓ZD,ZW,simprocAttr]
 refine CallE.pureH (pword_pure _ (hW.mono le_up) hE hp hb) ?_
 simp only [hFb,hFs,wdV,↓ZD,ZW,simprocAttr]
 refine NewB.of fun b2 hb2 hF2=>?_
 simp only [List.forall_mem_cons,List.not_mem_nil,false_implies,implies_true,and_true] at hb2
 obtain ⟨n1,n2⟩:=hb2
 simp only [hFb,hFs,hF2,wdV,↓ZD,ZW,simprocAttr]
 unfold placeP
 by_cases h:p.e=0∧wk ws p=4
 ·have h1:(p.e != 0)=false:=by simpa using h.1
  have h2:((((wdAt ws p.p).1.1:Nat):Int) != 4)=false:=by simpa [wk] using h.2
  have hr:=in_range (ws:=ws) (p:=p.p) (by have:=h.2;unfold wk at this;omega)
  rw [if_pos h]
  by_cases ht:wtx ws p=nm
  ·have h3:((wdAt ws p.p).1.2.1==nm)=true:=by simpa [wtx] using ht
   rw [if_pos ht]
   simp (disch:=first | assumption | exact .symm ‹_› | omega) only [hFb,hFs,hF2,h1,h2,h3,Bool.not_true,Bool.not_false,hbs,adv,hv,↓ZD,ZW,simprocAttr]
   simp
  ·have h3:((wdAt ws p.p).1.2.1==nm)=false:=by simpa [wtx] using ht
   rw [if_neg ht]
   simp (disch:=first | assumption | exact .symm ‹_› | omega) only [hFb,hFs,hF2,h1,h2,h3,Bool.not_true,Bool.not_false,hbs,hv,↓ZD,ZW,simprocAttr]
   refine CallE.rp1 [(s,ScO x v)] (pfail_rd _ (l:=.slice (some ⟨bw,0,none⟩) ws.length cap) (rdObj_none hFb (by simpa using Ne.symm hbs)) p 32 _) (by simp) (by simp) (by simpa using Ne.symm hbs) ?_
   simp (disch:=first | assumption | exact .symm ‹_› | omega) only [hFb,hFs,hF2,h1,h2,h3,Bool.not_true,Bool.not_false,hbs,hv,failA,failS,adv,h.1,↓ZD,ZW,simprocAttr]
   simp
 ·have h1:(p.e != 0||(((wdAt ws p.p).1.1:Nat):Int) != 4)=true:=by
   rw [Bool.or_eq_true,bne_iff_ne,bne_iff_ne]
   by_cases h3:p.e=0
   ·exact .inr fun h4=>h ⟨h3,h4⟩
   ·exact .inl h3
  rw [if_neg h]
  simp (disch:=first | assumption | exact .symm ‹_› | omega) only [hFb,hFs,hF2,h1,hbs,hv,↓ZD,ZW,simprocAttr]
  refine CallE.rp1 [(s,ScO x v)] (puid_rd _ hws (hW.mono le_up) (rdObj_none hFb (by simpa using Ne.symm hbs)) p) (by simp) (by simp) (by simpa using Ne.symm hbs) ?_
  simp (disch:=first | assumption | exact .symm ‹_› | omega) only [hFb,hFs,hF2,h1,hbs,hv,↓ZD,ZW,simprocAttr]
  simp
theorem pathS_no {ws:Ws} {p:St} (he:p.e=0) (h:wk ws p≠1∨wtx ws p∈ownL):pathS ws p=([],failS ws p 10):=by
 have hf:(failS ws p 10).e≠0:=failS_e (by decide)
 unfold pathS
 by_cases ho:wtx ws p∈ownL
 ·have h2:takeS ws (failS ws p 10) 1=([],failS ws p 10):=by unfold takeS;rw [if_neg (fun k=>hf k.1),failS_err hf]
  rw [if_pos ho,h2];unfold pathT;rw [if_neg hf]
 ·have hk:wk ws p≠1:=h.resolve_right ho
  have h2:takeS ws p 1=([],failS ws p 10):=by unfold takeS;rw [if_neg (fun k=>hk k.2)]
  rw [if_neg ho,h2];unfold pathT;rw [if_neg hf]
theorem pathS_yes {ws:Ws} {p:St} (he:p.e=0) (hk:wk ws p=1) (ho:wtx ws p∉ownL):pathS ws p=pathT ws (wtx ws p,adv p):=by
 unfold pathS takeS;rw [if_neg ho,if_pos ⟨he,hk⟩]
theorem pathT_no {ws:Ws} {q:St} {o:Str} {j:Nat} (he:q.e=0) (hj:q.p=j) (h:isS ws q [58,58]=false∨¬ j+1 < ws.length∨((ws.getD (j+1) ((0,[],0),0)).1.1:Int)≠1):pathT ws (o,q)=(o,q):=by
 have hn:pathL (ws.drop q.p.toNat)=([],0):=by
  rw [show q.p.toNat=j by omega]
  exact path_no (q:=q) (by omega) (h.imp (fun h=>⟨he,by omega,h⟩) id)
 unfold pathT;rw [if_pos he,hn,List.append_nil]
 simp
theorem pathT_yes {ws:Ws} {q:St} {o:Str} {j:Nat} (he:q.e=0) (hj:q.p=j) (hi:isS ws q [58,58]=true) (hlt:j+1 < ws.length) (hk:((ws.getD (j+1) ((0,[],0),0)).1.1:Int)=1) :
  wk ws (adv q)=1∧pathT ws (o,q)=pathT ws (o++[58,58]++wtx ws (adv q),adv (adv q)):=by
 have e:wdAt ws (adv q).p=ws.getD (j+1) ((0,[],0),0):=by rw [show (adv q).p=((j+1:Nat):Int) by show q.p+1=_;omega,wdAt_in hlt]
 refine ⟨by unfold wk;rw [e];exact hk,?_⟩
 have hy:=path_yes he hj hi hlt hk
 have e1:q.p.toNat=j:=by omega
 have e2:(adv (adv q)).p.toNat=j+2:=by show (q.p+1+1).toNat=_;omega
 unfold pathT
 rw [if_pos he,if_pos (show (adv (adv q)).e=0 from he),e1,e2,hy]
 unfold wtx
 rw [e]
 refine Prod.ext (by simp [List.append_assoc]) ?_
 show (⟨_,_,_,_⟩:St)=⟨_,_,_,_⟩
 congr 1
 show q.p+((pathL (ws.drop (j+2))).2+2:Nat)=q.p+1+1+((pathL (ws.drop (j+2))).2:Nat)
 omega
def PathP (ws:Ws) (p:St) (X:Str×St) (y:St×Str×Bool×(Wd×Nat)):Prop:=
 y.1.e=0∧0≤y.1.p∧y.1.p≤ws.length∧y.2.1.length≤65538 * y.1.p.toNat∧(y.2.2.1=true→X=pathS ws y.1∧y.2.1=[])∧(y.2.2.1=false→wk ws y.1=1∧X=pathT ws (y.2.1++wtx ws y.1,adv y.1))
theorem ppath_rd (F:Base) {ws:Ws} (hws:WsOk ws) {l:Value} (hW:HasW F ws l) (hE:EndW ws) {b:Nat} (hFb:F b=none) {p:St} (hp:0≤p.p) (hp2:p.p≤ws.length):Rp1 F l 71 [] b p (.string (bs (pathS ws p).1)) (pathS ws p).2:=by
 have hb:rdObj F [(b,RdP l p)] b=some (RdP l p):=by simp [rdObj,hFb,lk]
 obtain ⟨bw,cap,sp,T,fz,rfl,hFw,hc,hm,hne⟩:=id hW
 refine Does.shr (K:=fun v H'=>v=.string (bs (pathS ws p).1)∧(b,RdP (.slice (some ⟨bw,0,none⟩) ws.length cap) (pathS ws p).2)∈H') ?_ fun v H' ⟨h1,h2⟩=>⟨[_],by simpa using h2,h1,rfl⟩
 refine does_of_svc (args:=[.pointer (some ⟨b,0,none⟩)]) mixed Tryz.func71 low71 (Nat.le_of_ble_eq_true rfl) (fun w0 hw0=>?_)
 simp only [fu71,hFb,↓ZD,ZW,simprocAttr]
 refine CallE.pureH (pword_pure _ (hW.mono le_up) hE hp hb) ?_
 simp only [hFb,wdV,↓ZD,ZW,simprocAttr]
 refine NewB.of fun b2 hb2 hF2=>?_
 simp only [List.forall_mem_cons,List.not_mem_nil,false_implies,implies_true,and_true] at hb2
 simp only [hFb,hF2,wdV,↓ZD,ZW,simprocAttr]
 by_cases he:p.e=0
 ·have hd:(p.e != 0)=false:=by simpa using he
  simp (disch:=first | assumption | exact .symm ‹_› | omega) only [hFb,hF2,hd,↓ZD,ZW,simprocAttr]
  generalize hX:pathS ws p=X
  refine LoopL.inv (α:=St×Str×Bool×(Wd×Nat)) (PathP ws p X) (fun y=>[(0,some (.pointer (some ⟨b,0,none⟩))),(3,some (.pointer (some ⟨b2,0,none⟩))),(4,some (.string (bs y.2.1))),(5,some (.bool y.2.2.1))])
   (fun y=>[(b,RdP (.slice (some ⟨bw,0,none⟩) ws.length cap) y.1),(b2,.cells (wdV y.2.2.2.1 y.2.2.2.2).toArray 58 (0,0))]) (fun y=>ws.length - y.1.p.toNat) (p,[],true,wdAt ws p.p) ⟨he,hp,hp2,Nat.zero_le _,fun _=>⟨hX.symm,rfl⟩,fun h=>by cases h⟩ (by (simp (disch:=first | assumption | exact .symm ‹_› | omega) only [↓ZD,ZW,simprocAttr];try trivial)) ?_ ?_
  ·simp only [HLe_nil,HLe_cons,wdV]
   simp (disch:=first | assumption | exact .symm ‹_› | omega) only [↓ZD,ZW,simprocAttr]
  rintro ⟨q,o,f,w⟩ ⟨h1,h2,h3,h4,h5,h6⟩
  simp only at h1 h2 h3 h4 h5 h6 ⊢
  have hbq:rdObj F [(b,RdP (.slice (some ⟨bw,0,none⟩) ws.length cap) q),(b2,.cells (wdV w.1 w.2).toArray 58 (0,0))] b=some (RdP (.slice (some ⟨bw,0,none⟩) ws.length cap) q):=by simp [rdObj,hFb,lk]
  have hd1:(q.e==0)=true:=by simpa using h1
  simp only [hFb,hF2,wdV,hb2,↓ZD,ZW,simprocAttr]
  refine CallE.pureH (pword_pure _ (hW.mono le_up) hE h2 hbq) ?_
  simp only [hFb,hF2,wdV,hb2,↓ZD,ZW,simprocAttr]
  refine CallQ.of (.bool (decide ((wdAt ws q.p).1.2.1∈ownL))) (fun _=>pown_pure _ _) ?_
  by_cases hk:wk ws q=1
  ·have k1:((((wdAt ws q.p).1.1:Nat):Int) != 1)=false:=by simpa [wk] using hk
   by_cases hbad:f=true∧wtx ws q∈ownL
   ·obtain ⟨rfl,ho2⟩:=hbad
    obtain ⟨hX1,ho⟩:=h5 rfl
    have hX2:=pathS_no (p:=q) h1 (.inr ho2)
    have k2:decide ((wdAt ws q.p).1.2.1∈ownL)=true:=decide_eq_true ho2
    simp (disch:=first | assumption | exact .symm ‹_› | omega) only [hFb,hF2,hb2,k1,k2,↓ZD,ZW,simprocAttr]
    refine CallE.rp1 [(b2,.cells (wdV (wdAt ws q.p).1 (wdAt ws q.p).2).toArray 58 (0,0))] (pfail_rd _ (l:=.slice (some ⟨bw,0,none⟩) ws.length cap) (rdObj_none hFb (by simpa using Ne.symm hb2)) q 10 _) (by simp) (by simp [wdV]) (by simpa using Ne.symm hb2) ?_
    simp (disch:=first | assumption | exact .symm ‹_› | omega) only [hFb,hF2,hb2,↓ZD,ZW,simprocAttr]
    rw [hX1,hX2]
    simp [failA_S]
   ·have k2:(f&&decide ((wdAt ws q.p).1.2.1∈ownL))=false:=by
     rw [Bool.and_eq_false_iff,decide_eq_false_iff_not]
     by_cases hf:f=true
     ·exact .inr fun h=>hbad ⟨hf,h⟩
     ·exact .inl (by simpa using hf)
    have hX1:X=pathT ws (o++wtx ws q,adv q):=by
     cases f with
     | false=>exact (h6 rfl).2
     | true=>
      obtain ⟨h7,rfl⟩:=h5 rfl
      rw [h7,pathS_yes h1 hk (fun h=>hbad ⟨rfl,h⟩)];rfl
    have hr:=in_range (ws:=ws) (p:=q.p) (by unfold wk at hk;omega)
    simp (disch:=first | assumption | exact .symm ‹_› | omega) only [hFb,hF2,hb2,k1,k2,↓ZD,ZW,simprocAttr]
    have hlen:=(wdAt_ok hws q.p).1
    have h65:=hws.1
    refine conj.of (by omega) ?_
    simp (disch:=first | assumption | exact .symm ‹_› | omega) only [hFb,hF2,hb2,k1,k2,↓ZD,ZW,simprocAttr]
    have hbq1:rdObj F [(b,RdP (.slice (some ⟨bw,0,none⟩) ws.length cap) (adv q)),(b2,.cells (wdV (wdAt ws q.p).1 (wdAt ws q.p).2).toArray 58 (0,0))] b=some (RdP (.slice (some ⟨bw,0,none⟩) ws.length cap) (adv q)):=by simp [rdObj,hFb,lk]
    have he1:(adv q).e=0:=h1
    obtain ⟨j,hj⟩:∃ j:Nat,(adv q).p=j:=⟨(adv q).p.toNat,by have:(adv q).p=q.p+1:=rfl;omega⟩
    have hj2:q.p+1=j:=hj
    refine CallQ.of (.bool (isS ws (adv q) [58,58])) (pis_pure _ (hW.mono le_up) hE (by omega) hbq1 [58,58]) ?_
    obtain ⟨i,hi3,hm2,hw⟩:∃ i:Nat,i < ws.length∧(if (ws.length:Int) - 1 < (j:Int)+1 then (ws.length:Int) - 1 else (j:Int)+1)=i∧((j+1 < ws.length∧i=j+1)∨(¬ j+1 < ws.length∧(ws.getD i ((0,[],0),0)).1=(0,[],0))):=by
     have hpos:0 < ws.length:=List.length_pos_iff.2 hne
     by_cases h:j+1 < ws.length
     ·exact ⟨j+1,h,by rw [if_neg (by omega)];omega,.inl ⟨h,rfl⟩⟩
     ·exact ⟨ws.length - 1,by omega,by rw [if_pos (by omega)];omega,.inr ⟨h,hE⟩⟩
    have hld:=wds_at0 (sp:=sp) (T:=T) (fz:=fz) hi3
    cases hi:isS ws (adv q) [58,58] with
    | false=>
     rw [hX1,pathT_no he1 hj (.inl hi)]
     simp (disch:=first | assumption | exact .symm ‹_› | omega) only [hFb,hF2,hb2,hj2,hm2,hFw,hld,Int.toNat_natCast,↓ZD,ZW,simprocAttr]
     simp [adv,hj2,wtx]
    | true=>
     have hr1:=isS_range hi
     simp (disch:=first | assumption | exact .symm ‹_› | omega) only [hFb,hF2,hb2,hj2,hm2,hFw,hld,Int.toNat_natCast,↓ZD,ZW,simprocAttr]
     refine conj.of (by omega) ?_
     by_cases hk3:((ws.getD i ((0,[],0),0)).1.1:Int)=1
     ·have k3:(((ws.getD i ((0,[],0),0)).1.1:Int) != 1)=false:=by simpa using hk3
      rcases hw with ⟨hlt,rfl⟩ | ⟨_,h0⟩
      ·obtain ⟨y1,y2⟩:=pathT_yes (o:=o++wtx ws q) he1 hj hi hlt hk3
       simp (disch:=first | assumption | exact .symm ‹_› | omega) only [hFb,hF2,hb2,hj2,hm2,hFw,hld,Int.toNat_natCast,k3,↓ZD,ZW,simprocAttr]
       refine conj.of (by omega) ?_
       simp (disch:=first | assumption | exact .symm ‹_› | omega) only [hFb,hF2,hb2,hj2,hm2,hFw,hld,Int.toNat_natCast,k3,↓ZD,ZW,simprocAttr]
       refine invK.on (adv (adv q),o++wtx ws q++[58,58],false,wdAt ws q.p) ?_ ?_ ?_ ?_
       ·have g1:(0:Int)≤(adv (adv q)).p:=by show (0:Int)≤q.p+1+1;omega
        have g2:(adv (adv q)).p≤(ws.length:Int):=by show q.p+1+1≤(ws.length:Int);omega
        have g3:(o++wtx ws q++[58,58]).length≤65538 * (adv (adv q)).p.toNat:=by
         show (o++wtx ws q++[58,58]).length≤65538 * (q.p+1+1).toNat
         have:(wtx ws q).length≤65536:=hlen
         simp only [List.length_append,List.length_cons,List.length_nil];omega
        have g5:false=true→X=pathS ws (adv (adv q))∧o++wtx ws q++[58,58]=[]:=fun h=>by cases h
        exact And.intro he1 (And.intro g1 (And.intro g2 (And.intro g3 (And.intro g5 fun _=>⟨y1,hX1.trans y2⟩))))
       ·show ws.length - (q.p+1+1).toNat < ws.length - q.p.toNat
        omega
       ·simp only [Le_nil,Le_cons,wtx]
        simp (disch:=first | assumption | exact .symm ‹_› | omega) only [↓ZD,ZW,simprocAttr]
        try simp
       ·simp only [HLe_nil,HLe_cons,wdV]
        simp (disch:=first | assumption | exact .symm ‹_› | omega) only [hb2,hj2,adv,↓ZD,ZW,simprocAttr]
      ·rw [h0] at hk3;exact absurd hk3 (by decide)
     ·have k3:(((ws.getD i ((0,[],0),0)).1.1:Int) != 1)=true:=by simpa using hk3
      rw [hX1,pathT_no he1 hj (.inr (by rcases hw with ⟨hlt,rfl⟩ | ⟨h,_⟩;exact .inr hk3;exact .inl h))]
      simp (disch:=first | assumption | exact .symm ‹_› | omega) only [hFb,hF2,hb2,hj2,hm2,hFw,hld,Int.toNat_natCast,k3,↓ZD,ZW,simprocAttr]
      simp [adv,hj2,wtx]
  ·have k1:((((wdAt ws q.p).1.1:Nat):Int) != 1)=true:=by simpa [wk] using hk
   have hf:f=true:=by
    cases f with
    | true=>rfl
    | false=>exact absurd (h6 rfl).1 hk
   subst hf
   obtain ⟨hX1,ho⟩:=h5 rfl
   have hX2:=pathS_no (p:=q) h1 (.inl hk)
   simp (disch:=first | assumption | exact .symm ‹_› | omega) only [hFb,hF2,hb2,k1,↓ZD,ZW,simprocAttr]
   refine CallE.rp1 [(b2,.cells (wdV (wdAt ws q.p).1 (wdAt ws q.p).2).toArray 58 (0,0))] (pfail_rd _ (l:=.slice (some ⟨bw,0,none⟩) ws.length cap) (rdObj_none hFb (by simpa using Ne.symm hb2)) q 10 _) (by simp) (by simp [wdV]) (by simpa using Ne.symm hb2) ?_
   simp (disch:=first | assumption | exact .symm ‹_› | omega) only [hFb,hF2,hb2,↓ZD,ZW,simprocAttr]
   rw [hX1,hX2]
   simp [failA_S]
 ·have hd:(p.e != 0)=true:=by simpa using he
  rw [pathS_err he]
  simp (disch:=first | assumption | exact .symm ‹_› | omega) only [hFb,hF2,hd,↓ZD,ZW,simprocAttr]
  simp
abbrev v0:Value:=.slice none 0 0
def scV (x:Scp) (v:Value):Value:=.agg #[.int .i64 x.kind,.string (bs x.ty),.string (bs x.ut),.string (bs x.ui),.bool x.slot,v]
theorem takeS_p {ws:Ws} {p:St} {k:Int} (h:0≤p.p):0≤(takeS ws p k).2.p:=by
 unfold takeS adv failS
 split
 ·show (0:Int)≤p.p+1;omega
 ·show (0:Int)≤(if p.e=0 then _ else _:St).p
  split <;> exact h
theorem failS_p {ws:Ws} {p:St} {e:Int} (h:0≤p.p):0≤(failS ws p e).p:=by
 unfold failS;split <;> exact h
theorem pathS_p {ws:Ws} {p:St} (h:0≤p.p):0≤(pathS ws p).2.p:=by
 have h1:0≤(if wtx ws p∈ownL then failS ws p 10 else p).p:=by
  split
  ·exact failS_p h
  ·exact h
 have h2:=takeS_p (ws:=ws) (k:=1) h1
 unfold pathS pathT
 generalize takeS ws (if wtx ws p∈ownL then failS ws p 10 else p) 1=y at *
 split
 ·show (0:Int)≤y.2.p+((pathL (ws.drop y.2.p.toNat)).2:Nat);omega
 ·exact h2
theorem pscope_rd (F:Base) {ws:Ws} (hws:WsOk ws) {l:Value} (hW:HasW F ws l) (hE:EndW ws) {b:Nat} (hFb:F b=none) {p:St} (hp:0≤p.p) (nm:Str) (hnm:nm.length≤9223372036854775807):Rp1 F l 42 [.string (bs nm)] b p (scV (scopeP ws p nm).1 v0) (scopeP ws p nm).2:=by
 obtain ⟨bw,cap,sp,T,fz,rfl,hFw,hc,hm,hne⟩:=id hW
 refine Does.shr (K:=fun v H'=>v=scV (scopeP ws p nm).1 v0∧(b,RdP (.slice (some ⟨bw,0,none⟩) ws.length cap) (scopeP ws p nm).2)∈H') ?_ fun v H' ⟨h1,h2⟩=>⟨[_],by simpa using h2,h1,rfl⟩
 refine does_of_svc (args:=[.pointer (some ⟨b,0,none⟩),.string (bs nm)]) mixed Tryz.func42 low42 (Nat.le_of_ble_eq_true rfl) (fun w0 hw0=>?_)
 simp only [fu42,hFb,↓ZD,ZW,simprocAttr]
 refine NewB.of fun b4 hb4 hF4=>?_
 simp only [List.forall_mem_cons,List.not_mem_nil,false_implies,implies_true,and_true] at hb4
 simp only [hFb,hF4,↓ZD,ZW,simprocAttr]
 refine NewB.of fun b5 hb5 hF5=>?_
 simp only [List.forall_mem_cons,List.not_mem_nil,false_implies,implies_true,and_true] at hb5
 obtain ⟨n45,n5⟩:=hb5
 simp only [hFb,hF4,hF5,↓ZD,ZW,simprocAttr]
 refine NewB.of fun b6 hb6 hF6=>?_
 simp only [List.forall_mem_cons,List.not_mem_nil,false_implies,implies_true,and_true] at hb6
 obtain ⟨n56,n46,n6⟩:=hb6
 simp only [hFb,hF4,hF5,hF6,↓ZD,ZW,simprocAttr]
 have m4:=Ne.symm hb4
 have m5:=Ne.symm n5
 have m6:=Ne.symm n6
 refine CallE.rp1 [(b6,.cells #[.string (bs nm)] 9 (0,0)),(b5,ScO sc0 v0),(b4,ScO sc0 v0)] (pmust_rd _ (l:=.slice (some ⟨bw,0,none⟩) ws.length cap) (ts:=[nm]) (hW.mono le_up) hE (rdObj_none hFb (by simp [m4,m5,m6])) hp (slsN (l:=[nm]) (b:=b6) (T:=9) (by simp [rdObj,hF6,lk]) (by simp) (by simpa using hnm))) (by simp) (by simp [sc0]) (by simp [m4,m5,m6]) ?_
 rw [show mustsS ws p [nm]=mustS ws p nm from rfl]
 have hs1:=mustS_p (ws:=ws) (t:=nm) hp
 unfold scopeP
 generalize mustS ws p nm=s1 at *
 simp only [hFb,hF4,hF5,hF6,↓ZD,ZW,simprocAttr]
 refine CallE.rp1 [(b6,.cells #[.string (bs nm)] 9 (0,0)),(b5,ScO sc0 v0),(b4,ScO sc0 v0)] (pskip_rd _ (l:=.slice (some ⟨bw,0,none⟩) ws.length cap) (hW.mono le_up) hE (rdObj_none hFb (by simp [m4,m5,m6])) hs1 [61,61]) List.mem_cons_self (fun e he=>List.mem_cons_of_mem _ he) (by simp [m4,m5,m6]) ?_
 cases i1:isS ws s1 [61,61] with
 | true=>
  have hr:=isS_range i1
  simp only [i1,if_true]
  simp (disch:=first | assumption | exact .symm ‹_› | omega) only [hFb,hF4,hF5,hF6,i1,↓ZD,ZW,simprocAttr]
  refine CallE.does [(b,RdP (.slice (some ⟨bw,0,none⟩) ws.length cap) (adv s1)),(b5,ScO (kindS 1 []) v0)] [(b6,.cells #[.string (bs nm)] 9 (0,0)),(b4,ScO sc0 v0)] (pplace_does _ hws (hW.mono le_up) hE n5 (rdObj_none hFb (by simp [m4,m6])) (rdObj_none hF5 (by simp [n45,Ne.symm n56])) (by show 0≤s1.p+1;omega) (kindS 1 []) rfl nm) (fun _ _ h=>h) (by simp [kindS,sc0]) (by simp [sc0]) (by simp [n45,n56,Ne.symm n45,hb4,n6]) ?_
  rintro _ _ ⟨rfl,rfl⟩ - - -
  generalize placeP ws (adv s1) (kindS 1 []) nm=Y
  simp (disch:=first | assumption | exact .symm ‹_› | omega) only [hFb,hF4,hF5,hF6,n45,n56,n46,hb4,n5,n6,↓ZD,ZW,simprocAttr]
  simp [scV]
 | false=>
  simp only [i1,if_false,Bool.false_eq_true]
  simp (disch:=first | assumption | exact .symm ‹_› | omega) only [hFb,hF4,hF5,hF6,i1,↓ZD,ZW,simprocAttr]
  refine CallE.rp1 [(b6,.cells #[.string (bs nm)] 9 (0,0)),(b5,ScO sc0 v0),(b4,ScO sc0 v0)] (pskip_rd _ (l:=.slice (some ⟨bw,0,none⟩) ws.length cap) (hW.mono le_up) hE (rdObj_none hFb (by simp [m4,m5,m6])) hs1 [105,110]) List.mem_cons_self (fun e he=>List.mem_cons_of_mem _ he) (by simp [m4,m5,m6]) ?_
  cases i2:isS ws s1 [105,110] with
  | true=>
   have hr:=isS_range i2
   simp only [i2,if_true]
   simp (disch:=first | assumption | exact .symm ‹_› | omega) only [hFb,hF4,hF5,hF6,i2,↓ZD,ZW,simprocAttr]
   refine CallE.does [(b,RdP (.slice (some ⟨bw,0,none⟩) ws.length cap) (adv s1)),(b5,ScO (kindS 2 []) v0)] [(b6,.cells #[.string (bs nm)] 9 (0,0)),(b4,ScO sc0 v0)] (pplace_does _ hws (hW.mono le_up) hE n5 (rdObj_none hFb (by simp [m4,m6])) (rdObj_none hF5 (by simp [n45,Ne.symm n56])) (by show 0≤s1.p+1;omega) (kindS 2 []) rfl nm) (fun _ _ h=>h) (by simp [kindS,sc0]) (by simp [sc0]) (by simp [n45,n56,Ne.symm n45,hb4,n6]) ?_
   rintro _ _ ⟨rfl,rfl⟩ - - -
   generalize placeP ws (adv s1) (kindS 2 []) nm=Y
   simp (disch:=first | assumption | exact .symm ‹_› | omega) only [hFb,hF4,hF5,hF6,n45,n56,n46,hb4,n5,n6,↓ZD,ZW,simprocAttr]
   simp [scV]
  | false=>
   simp only [i2,if_false,Bool.false_eq_true]
   simp (disch:=first | assumption | exact .symm ‹_› | omega) only [hFb,hF4,hF5,hF6,i2,↓ZD,ZW,simprocAttr]
   refine CallE.rp1 [(b6,.cells #[.string (bs nm)] 9 (0,0)),(b5,ScO sc0 v0),(b4,ScO sc0 v0)] (pskip_rd _ (l:=.slice (some ⟨bw,0,none⟩) ws.length cap) (hW.mono le_up) hE (rdObj_none hFb (by simp [m4,m5,m6])) hs1 [105,115]) List.mem_cons_self (fun e he=>List.mem_cons_of_mem _ he) (by simp [m4,m5,m6]) ?_
   cases i3:isS ws s1 [105,115] with
   | true=>
    have hr:=isS_range i3
    simp only [i3,if_true]
    simp (disch:=first | assumption | exact .symm ‹_› | omega) only [hFb,hF4,hF5,hF6,i3,↓ZD,ZW,simprocAttr]
    refine CallE.rp1 [(b6,.cells #[.string (bs nm)] 9 (0,0)),(b5,ScO sc0 v0),(b4,ScO sc0 v0)] (ppath_rd _ hws (l:=.slice (some ⟨bw,0,none⟩) ws.length cap) (hW.mono le_up) hE (rdObj_none hFb (by simp [m4,m5,m6])) (p:=adv s1) (by show 0≤s1.p+1;omega) (by show s1.p+1≤(ws.length:Int);omega)) List.mem_cons_self (fun e he=>List.mem_cons_of_mem _ he) (by simp [m4,m5,m6]) ?_
    have hp3:=pathS_p (ws:=ws) (p:=adv s1) (by show 0≤s1.p+1;omega)
    generalize pathS ws (adv s1)=t at *
    simp (disch:=first | assumption | exact .symm ‹_› | omega) only [hFb,hF4,hF5,hF6,i3,↓ZD,ZW,simprocAttr]
    refine CallE.rp1 [(b6,.cells #[.string (bs nm)] 9 (0,0)),(b5,ScO (kindS 3 t.1) v0),(b4,ScO sc0 v0)] (pskip_rd _ (l:=.slice (some ⟨bw,0,none⟩) ws.length cap) (hW.mono le_up) hE (rdObj_none hFb (by simp [m4,m5,m6])) hp3 [105,110]) List.mem_cons_self (fun e he=>List.mem_cons_of_mem _ he) (by simp [m4,m5,m6]) ?_
    cases i4:isS ws t.2 [105,110] with
    | true=>
     have hr4:=isS_range i4
     simp only [if_true]
     simp (disch:=first | assumption | exact .symm ‹_› | omega) only [hFb,hF4,hF5,hF6,i4,↓ZD,ZW,simprocAttr]
     refine CallE.does [(b,RdP (.slice (some ⟨bw,0,none⟩) ws.length cap) (adv t.2)),(b5,ScO (kindS 4 t.1) v0)] [(b6,.cells #[.string (bs nm)] 9 (0,0)),(b4,ScO sc0 v0)] (pplace_does _ hws (hW.mono le_up) hE n5 (rdObj_none hFb (by simp [m4,m6])) (rdObj_none hF5 (by simp [n45,Ne.symm n56])) (by show 0≤t.2.p+1;omega) (kindS 4 t.1) rfl nm) (fun _ _ h=>h) (by simp [kindS,sc0]) (by simp [sc0]) (by simp [n45,n56,Ne.symm n45,hb4,n6]) ?_
     rintro _ _ ⟨rfl,rfl⟩ - - -
     generalize placeP ws (adv t.2) (kindS 4 t.1) nm=Y
     simp (disch:=first | assumption | exact .symm ‹_› | omega) only [hFb,hF4,hF5,hF6,n45,n56,n46,hb4,n5,n6,↓ZD,ZW,simprocAttr]
     simp [scV]
    | false=>
     simp only [if_false,Bool.false_eq_true]
     simp (disch:=first | assumption | exact .symm ‹_› | omega) only [hFb,hF4,hF5,hF6,i4,↓ZD,ZW,simprocAttr]
     simp [scV,kindS]
   | false=>
    simp only [i3,if_false,Bool.false_eq_true]
    simp (disch:=first | assumption | exact .symm ‹_› | omega) only [hFb,hF4,hF5,hF6,i3,↓ZD,ZW,simprocAttr]
    simp [scV,sc0]
theorem hasSlL_drop {l:List Ex'} {i:Nat} {x:Ex'} (h:l[i]?=some x) (t:Str):hasSlL (l.drop i) t=(hasSl x t||hasSlL (l.drop (i+1)) t):=by
 obtain ⟨hi,rfl⟩:=List.getElem?_eq_some_iff.mp h
 rw [List.drop_eq_getElem_cons hi,hasSlL]
theorem slots_pure (F:Base) (t:Str) {cs:List Value} {e:Ex'} (h:RepX F cs e):PureV Tryz.prog F 73 #[.agg cs.toArray,.string (bs t)] (.bool (hasSl e t)):=by
 induction h with
 | mk op v u1 u2 nm a1 c1 kids g1 vn names hu hop hk hn hl1 hc1 h1 r1 hN i1=>
  obtain ⟨an,cn,rfl,hcn,-⟩:=hN
  refine pureV_of_svc (args:=[.agg (xcells op v u1 u2 nm (.slice a1 kids.length c1) (.slice an names.length cn)).toArray,.string (bs t)]) mixed Tryz.func73 low73 (Nat.le_of_ble_eq_true rfl) (fun w0=>?_)
  unfold xcells
  simp (disch:=first | assumption | exact .symm ‹_› | omega) only [fu73,↓ZD,ZW,simprocAttr]
  refine NewB.of fun b1 hb1 hF1=>?_
  rw [hasSl]
  simp (disch:=first | assumption | exact .symm ‹_› | omega) only [hF1,↓ZD,ZW,simprocAttr]
  generalize (op==3&&nm==t)=f0
  refine LoopL.inv (α:=Nat×Bool) (fun x=>x.1≤kids.length∧(f0||hasSlL kids t)=(x.2||hasSlL (kids.drop x.1) t))
   (fun x=>[(1,some (.string (bs t))),(5,some (.bool x.2)),(18,some (.slice a1 kids.length c1)),(19,some (.int .i64 kids.length)),(20,some (.int .i64 x.1))])
   (fun x=>[]) (fun x=>kids.length - x.1) (0,f0) ⟨Nat.zero_le _,rfl⟩ (by (simp (disch:=first | assumption | exact .symm ‹_› | omega) only [↓ZD,ZW,simprocAttr];try trivial)) trivial ?_
  rintro ⟨i,f⟩ ⟨hi,hfw⟩
  simp only at hi hfw ⊢
  rw [hfw]
  by_cases hlt:i < kids.length
  ·have hd:decide ((i:Int) < (kids.length:Int))=true:=by simp;omega
   have gx:=getX hlt
   have hc:=i1 i _ gx
   obtain ⟨q1,q2,q3,q4,q5,q6,q7,q8,q9,q10,q11,q12,q13,q14,q15,q16,q17,q18,q19,q20,e1⟩:=(r1 i _ gx).form
   obtain ⟨ba,oa,rfl,hla⟩:=(h1 i _ gx).ldn
   rw [e1] at hc hla
   have hs:=hasSlL_drop gx t
   rw [hs]
   simp (disch:=first | assumption | exact .symm ‹_› | omega) only [hF1,hd,↓ZD,ZW,simprocAttr]
   refine conj.of (by omega) ?_
   simp (disch:=first | assumption | exact .symm ‹_› | omega) only [hF1,hd,Int.toNat_natCast,↓hla,↓ZD,ZW,simprocAttr]
   refine NewB.of fun b2 hb2 hF2=>?_
   simp (disch:=first | assumption | exact .symm ‹_› | omega) only [hF2,↓ZD,ZW,simprocAttr]
   refine CallQ.of _ (fun _ w hw=>hc w fun b o hb=>hw b o (le_up b o hb)) ?_
   simp (disch:=first | assumption | exact .symm ‹_› | omega) only [hF2,↓ZD,ZW,simprocAttr]
   refine invK.on (i+1,f||hasSl (kids.getD i nilX) t) ⟨by simp only;omega,by simp only [Bool.or_assoc]⟩ (by simp only;omega) ?_ trivial
   simp only [Le_nil,Le_cons]
   cases f <;> simp (disch:=first | assumption | exact .symm ‹_› | omega) only [↓ZD,ZW,simprocAttr] <;> try simp
  ·have hd:decide ((kids.length:Int) < (kids.length:Int))=false:=by simp
   obtain rfl:i=kids.length:=by omega
   rw [List.drop_length,hasSlL,Bool.or_false]
   simp (disch:=first | assumption | exact .symm ‹_› | omega) only [hF1,hd,↓ZD,ZW,simprocAttr]
theorem w1_endW:∀ (n a:Nat) (s:List UInt8) (l:List (Wd×Nat)),s.length < n→w1 n a s=.ok l→l≠[]∧EndW l
 | 0,_,s,l,hn,h=>by omega
 | n + 1,a,s,l,hn,h=>by
  rw [w1] at h
  split at h
  ·injection h with h;subst h
   exact ⟨by simp,rfl⟩
  ·rename_i hne
   split at h
   ·cases h
   ·rename_i w m hk
    split at h
    ·cases h
    ·rename_i l' hl
     injection h with h;subst h
     have h1:=tok_len hk
     have hpos:0 < s.length:=List.length_pos_iff.2 hne
     have h2:(s.drop (m+blankN (s.drop m))).length < n:=by rw [List.length_drop];omega
     obtain ⟨i1,i2⟩:=w1_endW n _ _ l' h2 hl
     have hl':=List.length_pos_iff.2 i1
     refine ⟨by simp,?_⟩
     unfold EndW at *
     rw [List.length_cons,show l'.length+1 - 1=(l'.length - 1)+1 by omega,List.getD_cons_succ]
     exact i2
theorem words_endW {s:List UInt8} {l:List (Wd×Nat)} (h:words s=.ok l):EndW l:=
 (w1_endW _ _ _ l (by rw [List.length_drop];omega) h).2
def SlN (n:Nat) (F:Base) (v:Value) (gs:List (List Value)):Prop:=∃ a c,v=.slice a gs.length c∧gs.length≤c∧c≤9223372036854775807∧∀ (i:Nat) (g:List Value),gs[i]?=some g→Cl F a n i g
theorem SlN.mono {n:Nat} {F F':Base} {v:Value} {gs:List (List Value)} (h:SlN n F v gs) (hF:∀ b o,F b=some o→F' b=some o):SlN n F' v gs:=by
 obtain ⟨a,c,h1,h2,h3,h4⟩:=h;exact ⟨a,c,h1,h2,h3,fun i g hg=>(h4 i g hg).mono hF⟩
theorem SlN.nil {n:Nat} {F:Base}:SlN n F v0 []:=⟨none,0,rfl,Nat.le_refl _,by decide,fun i g h=>by simp at h⟩
theorem rows_at {n:Nat} {gs:List (List Value)} {sp:List Value} (hl:∀ g∈gs,g.length=n) {i:Nat} {g:List Value} (h:gs[i]?=some g):((gs.flatten++sp).drop (i * n)).take n=g∧i * n+n≤(gs.flatten++sp).length:=by
 induction gs generalizing i with
 | nil=>simp at h
 | cons x r ih=>
  have hx:=hl x List.mem_cons_self
  cases i with
  | zero=>
   simp only [List.getElem?_cons_zero,Option.some.injEq] at h
   subst h
   simp only [List.flatten_cons,List.append_assoc,Nat.zero_mul,List.drop_zero]
   exact ⟨List.take_left' hx,by rw [List.length_append];omega⟩
  | succ i=>
   obtain ⟨h1,h2⟩:=ih (fun c hc=>hl c (List.mem_cons_of_mem _ hc)) (by simpa using h)
   simp only [List.flatten_cons,List.append_assoc]
   have e:(i+1) * n=x.length+i * n:=by rw [Nat.add_mul,hx];omega
   refine ⟨?_,by rw [List.length_append,e];omega⟩
   rw [e,← List.drop_drop,List.drop_left' rfl]
   exact h1
theorem SlN.own {n T:Nat} {F:Base} {v:Value} {gs:List (List Value)} {Ho H:Hp} (h:OwnS F n T gs.flatten gs.length v Ho) (hn:∀ g∈gs,g.length=n) (hl:∀ e∈Ho,lk H e.1=some e.2):SlN n (rdObj F H) v gs:=by
 rcases h.out with ⟨h1,h2,rfl,-⟩ | ⟨b,cap,sp,rfl,rfl,hF,h1,h2,h3,h4⟩
 ·have:gs=[]:=List.eq_nil_of_length_eq_zero h2
  subst this;exact SlN.nil
 ·refine ⟨_,_,rfl,h3,h4,fun i g hg=>?_⟩
  obtain ⟨k1,k2⟩:=rows_at (sp:=sp) hn hg
  exact ⟨b,0,_,_,_,rfl,(rdObj_own hF).trans (hl _ (List.mem_singleton.2 rfl)),by simpa using k2,by simpa using k1⟩
def All2 {α β:Type} (R:α→β→Prop):List α→List β→Prop
 | [],[]=>True
 | a::l,b::m=>R a b∧All2 R l m
 | _,_=>False
theorem All2.len {α β:Type} {R:α→β→Prop}:∀ {l:List α} {m:List β},All2 R l m→l.length=m.length
 | [],[],_=>rfl
 | a::l,b::m,h=>by rw [List.length_cons,List.length_cons,All2.len h.2]
 | [],_::_,h=>h.elim
 | _::_,[],h=>h.elim
theorem All2.mono {α β:Type} {R S:α→β→Prop} (hRS:∀ a b,R a b→S a b):∀ {l:List α} {m:List β},All2 R l m→All2 S l m
 | [],[],_=>trivial
 | a::l,b::m,h=>⟨hRS a b h.1,All2.mono hRS h.2⟩
 | [],_::_,h=>h.elim
 | _::_,[],h=>h.elim
theorem All2.snoc {α β:Type} {R:α→β→Prop} {a:α} {b:β} (h1:R a b):∀ {l:List α} {m:List β},All2 R l m→All2 R (l++[a]) (m++[b])
 | [],[],_=>⟨h1,trivial⟩
 | _::l,_::m,h=>⟨h.1,All2.snoc h1 h.2⟩
 | [],_::_,h=>h.elim
 | _::_,[],h=>h.elim
theorem All2.at {α β:Type} {R:α→β→Prop}:∀ {l:List α} {m:List β} (_:All2 R l m) {i:Nat} {b:β},m[i]?=some b→∃ a,l[i]?=some a∧R a b
 | [],[],_,i,b,hb=>by simp at hb
 | x::l,y::m,h,0,b,hb=>by
  simp only [List.getElem?_cons_zero,Option.some.injEq] at hb
  subst hb;exact ⟨x,rfl,h.1⟩
 | x::l,y::m,h,i+1,b,hb=>by
  obtain ⟨a,h1,h2⟩:=All2.at h.2 (i:=i) (b:=b) (by simpa using hb)
  exact ⟨a,by simpa using h1,h2⟩
 | [],_::_,h,_,_,_=>h.elim
 | _::_,[],h,_,_,_=>h.elim
theorem All2.all {α β:Type} {R:α→β→Prop} {P:α→Prop} (hP:∀ a b,R a b→P a):∀ {l:List α} {m:List β},All2 R l m→∀ a∈l,P a
 | [],[],_,a,ha=>by cases ha
 | x::l,y::m,h,a,ha=>by
  rcases List.mem_cons.1 ha with rfl | ha
  ·exact hP _ _ h.1
  ·exact All2.all hP h.2 a ha
 | [],_::_,h,_,_=>h.elim
 | _::_,[],h,_,_=>h.elim
abbrev uidC (u:Str×Str):List Value:=[.string (bs u.1),.string (bs u.2)]
def SlU (F:Base) (v:Value) (us:List (Str×Str)):Prop:=SlN 2 F v (us.map uidC)
theorem SlU.mono {F F':Base} {v:Value} {us:List (Str×Str)} (h:SlU F v us) (hF:∀ b o,F b=some o→F' b=some o):SlU F' v us:=SlN.mono h hF
theorem SlU.nil {F:Base}:SlU F v0 []:=SlN.nil
def CondR (F:Base) (g:List Value) (c:Bool×Ex'):Prop:=∃ cs,g=.bool c.1::cs∧RepP F cs c.2
theorem CondR.mono {F F':Base} (hF:∀ b o,F b=some o→F' b=some o) {g:List Value} {c:Bool×Ex'} (h:CondR F g c):CondR F' g c:=by
 obtain ⟨cs,h1,h2⟩:=h;exact ⟨cs,h1,h2.mono hF⟩
theorem CondR.len {F:Base} {g:List Value} {c:Bool×Ex'} (h:CondR F g c):g.length=13:=by
 obtain ⟨cs,rfl,h2⟩:=h;simp [h2.len]
def SlC (F:Base) (v:Value) (cs:List (Bool×Ex')):Prop:=∃ gs,SlN 13 F v gs∧All2 (CondR F) gs cs
theorem SlC.mono {F F':Base} {v:Value} {cs:List (Bool×Ex')} (h:SlC F v cs) (hF:∀ b o,F b=some o→F' b=some o):SlC F' v cs:=by
 obtain ⟨gs,h1,h2⟩:=h;exact ⟨gs,h1.mono hF,h2.mono fun _ _=>CondR.mono hF⟩
abbrev polC (x:Pol) (vp va vr vc:Value):List Value:=
 [.string (bs x.id),.bool x.permit,.int .i64 x.p.kind,.string (bs x.p.ty),.string (bs x.p.ut),.string (bs x.p.ui),.bool x.p.slot,vp,
  .int .i64 x.a.kind,.string (bs x.a.ty),.string (bs x.a.ut),.string (bs x.a.ui),.bool x.a.slot,va,
  .int .i64 x.r.kind,.string (bs x.r.ty),.string (bs x.r.ut),.string (bs x.r.ui),.bool x.r.slot,vr,vc]
def RepPol (F:Base) (g:List Value) (x:Pol):Prop:=∃ va vc,g=polC x v0 va v0 vc∧SlU F va x.a.list∧SlC F vc x.conds
theorem RepPol.mono {F F':Base} (hF:∀ b o,F b=some o→F' b=some o) {g:List Value} {x:Pol} (h:RepPol F g x):RepPol F' g x:=by
 obtain ⟨va,vc,h1,h2,h3⟩:=h;exact ⟨va,vc,h1,h2.mono hF,h3.mono hF⟩
theorem RepPol.len {F:Base} {g:List Value} {x:Pol} (h:RepPol F g x):g.length=21:=by
 obtain ⟨va,vc,rfl,-,-⟩:=h;rfl
def SlP (F:Base) (v:Value) (xs:List Pol):Prop:=∃ gs,SlN 21 F v gs∧All2 (RepPol F) gs xs
theorem SlP.mono {F F':Base} {v:Value} {xs:List Pol} (h:SlP F v xs) (hF:∀ b o,F b=some o→F' b=some o):SlP F' v xs:=by
 obtain ⟨gs,h1,h2⟩:=h;exact ⟨gs,h1.mono hF,h2.mono fun _ _=>RepPol.mono hF⟩
theorem SlP.nil {F:Base}:SlP F v0 []:=⟨[],SlN.nil,trivial⟩
instance (priority:=10) Po.z {Ho:Hp}:Po Ho Ho [] []:=⟨by simp⟩
section
variable {X:List Nat} {F:Base} {w0:World} {ws:Ws} {l:Value} {f:Nat} {H:Hp} {K:Value→Hp→Prop} {b:Nat} {p:St}
def RpQ (F:Base) (l:Value) (f:Nat) (args:List Value) (b:Nat) (p:St) (r:Value) (p':St):Prop:=∀ F':Base,(∀ b o,F b=some o→F' b=some o)→F' b=none→Rp1 F' l f args b p r p'
theorem CallE.rpq {args:List Value} {r:Value} {p':St} {Hl G:Hp} {o:Obj} [sp:Sp b H o Hl G] (h:RpQ F l f args b p r p') (ho:o=RdP l p) (sd:Side F b Hl G) (hk:K r ((b,RdP l p')::(Hl++G))) :
  @CallE Tryz.prog X F w0 f (.pointer (some ⟨b,0,none⟩)::args).toArray H ⟨K⟩:=by
 obtain ⟨h1,h2,h3,-,-,-⟩:=sd
 subst ho
 have h4:∀ e∈Hl++G,e.1≠b:=fun e he=>(List.mem_append.1 he).elim (h2.all e) (h3.all e)
 exact CallE.rp1 (Hl++G) (h _ le_up (rdObj_nb h1 (Nb.of h4))) sp.mem (fun e he=>(List.mem_append.1 he).elim (sp.sub e) (sp.subG e)) h4 hk
theorem CallE.musts {bz T:Nat} {ts:List Str} {Hl G:Hp} {o:Obj} [sp:Sp b H o Hl G] (hW:HasW F ws l) (hE:EndW ws) (hp:0≤p.p) (hl:ts.length≤9223372036854775807) (hx:∀ x∈ts,x.length≤9223372036854775807) (ho:o=RdP l p) (sd:Side F b Hl G) (hz:F bz=none) (nz:Nb bz H)
  (hk:K (.tuple #[]) ((b,RdP l (mustsS ws p ts))::(Hl++G))) :
  @CallE Tryz.prog X F w0 40 #[.pointer (some ⟨b,0,none⟩),.slice (some ⟨bz,0,none⟩) ts.length ts.length] ((bz,.cells (ts.map fun x=>Value.string (bs x)).toArray T (0,0))::H) ⟨K⟩:=by
 obtain ⟨h1,h2,h3,-,-,-⟩:=sd
 subst ho
 have nb:bz≠b:=fun e=>nz.all _ sp.mem e.symm
 have h4:∀ e∈Hl++G,e.1≠b:=fun e he=>(List.mem_append.1 he).elim (h2.all e) (h3.all e)
 have h5:∀ e∈(bz,Obj.cells (ts.map fun x=>Value.string (bs x)).toArray T (0,0))::(Hl++G),e.1≠b:=all_cons nb h4
 refine CallG.shr (K:=fun v H'=>v=.tuple #[]∧H'=(b,RdP l (mustsS ws p ts))::(bz,.cells (ts.map fun x=>Value.string (bs x)).toArray T (0,0))::(Hl++G)) ?_ ?_
 ·refine CallE.rp1 ((bz,.cells (ts.map fun x=>Value.string (bs x)).toArray T (0,0))::(Hl++G)) (pmust_rd _ (ts:=ts) (hW.mono le_up) hE (rdObj_none h1 h5) hp (slsN (rdObj_hd hz) hl hx)) (List.mem_cons_of_mem _ sp.mem) ?_ h5 ⟨rfl,rfl⟩
  intro e he
  rcases List.mem_cons.1 he with rfl | he
  ·exact List.mem_cons_self
  ·exact List.mem_cons_of_mem _ ((List.mem_append.1 he).elim (sp.sub e) (sp.subG e))
 ·rintro v H' ⟨rfl,rfl⟩
  exact ⟨_,fun e he=>by rcases List.mem_cons.1 he with rfl | he <;> simp [*],hk⟩
theorem CallE.must1 {bz T:Nat} {t:Str} {Hl G:Hp} {o:Obj} [sp:Sp b H o Hl G] (hW:HasW F ws l) (hE:EndW ws) (hp:0≤p.p) (hx:t.length≤9223372036854775807) (ho:o=RdP l p) (sd:Side F b Hl G) (hz:F bz=none) (nz:Nb bz H)
  (hk:K (.tuple #[]) ((b,RdP l (mustS ws p t))::(Hl++G))) :
  @CallE Tryz.prog X F w0 40 #[.pointer (some ⟨b,0,none⟩),.slice (some ⟨bz,0,none⟩) 1 1] ((bz,.cells #[.string (bs t)] T (0,0))::H) ⟨K⟩:=
 CallE.musts (ts:=[t]) hW hE hp (by simp) (by simpa using hx) ho sd hz nz hk
theorem CallE.must2 {bz T:Nat} {t u:Str} {Hl G:Hp} {o:Obj} [sp:Sp b H o Hl G] (hW:HasW F ws l) (hE:EndW ws) (hp:0≤p.p) (hx:t.length≤9223372036854775807) (hy:u.length≤9223372036854775807) (ho:o=RdP l p) (sd:Side F b Hl G) (hz:F bz=none) (nz:Nb bz H)
  (hk:K (.tuple #[]) ((b,RdP l (mustS ws (mustS ws p t) u))::(Hl++G))) :
  @CallE Tryz.prog X F w0 40 #[.pointer (some ⟨b,0,none⟩),.slice (some ⟨bz,0,none⟩) 2 2] ((bz,.cells #[.string (bs t),.string (bs u)] T (0,0))::H) ⟨K⟩:=
 CallE.musts (ts:=[t,u]) hW hE hp (by simp) (by simp [hx,hy]) ho sd hz nz hk
def MkP (F:Base) (l:Value) (b:Nat) (s':St) (Q:Base→Value→Prop) (r:Value) (H':Hp):Prop:=∃ Hx,Q (rdObj F Hx) r∧Nb b Hx∧Wk Hx∧H'=(b,RdP l s')::Hx
theorem Does.mkp {args:Array Value} {H0:Hp} {s':St} {Q:Base→Value→Prop} (h:Does Tryz.prog F f args H0 (fun r H'=>∃ Hx,Q (rdObj F Hx) r∧Nb b Hx∧Wk Hx∧(b,RdP l s')∈H'∧∀ e∈Hx,e∈H')):Does Tryz.prog F f args H0 (MkP F l b s' Q):=
 h.shr fun v H' ⟨Hx,h1,h2,h3,h4,h5⟩=>⟨(b,RdP l s')::Hx,fun e he=>by
  rcases List.mem_cons.1 he with rfl | he
  ·exact h4
  ·exact h5 e he,Hx,h1,h2,h3,rfl⟩
theorem CallE.mkp {args:Array Value} {s':St} {Q:Base→Value→Prop} {Hl G:Hp} {o:Obj} [sp:Sp b H o Hl G] (h:∀ F':Base,(∀ b o,F b=some o→F' b=some o)→(∀ b o,rdObj F G b=some o→F' b=some o)→F' b=none→Does Tryz.prog F' f args [(b,RdP l p)] (MkP F' l b s' Q))
  (hQ:∀ (F F':Base) r,(∀ b o,F b=some o→F' b=some o)→Q F r→Q F' r) (ho:o=RdP l p) (sd:Side F b Hl G)
  (hk:∀ r G',Q (rdObj F G') r→Nb b G'∧Dj Hl G'∧(∀ b o,rdObj F G b=some o→rdObj F G' b=some o)∧Wk G'→K r ((b,RdP l s')::(Hl++G'))) :
  @CallE Tryz.prog X F w0 f args H ⟨K⟩:=by
 obtain ⟨hFb,h2,h3,h4,h5,h6⟩:=sd
 subst ho
 have nl:=h2.all
 have nG:=h3.all
 have dG:∀ e∈Hl,∀ e'∈G,e.1≠e'.1:=fun e he e' he'=>(Dj.iff.1 h4 e he e' he').symm
 have fG:=Nf.iff.1 h5
 have h1:=h (rdObj F G) le_up (fun _ _ h=>h) (rdObj_none hFb nG)
 refine CallG.shr (K:=fun v H'=>∃ Hx,Q (rdObj F (G++Hx)) v∧(∀ e∈Hx,e.1≠b)∧(∀ e∈Hl,∀ e'∈Hx,e.1≠e'.1)∧Wk (G++Hx)∧H'=(Hl++G)++((b,RdP l s')::Hx)) (CallG.frame (H0:=[(b,RdP l p)]) (Hr:=Hl++G) h1 ?_ ?_ ?_ ?_ ?_) ?_
 ·intro b' o' hb'
  unfold rdObj at *
  cases hF:F b' with
  | some o2=>simpa [hF] using hb'
  | none=>
   simp only [hF] at hb' ⊢
   rw [lk_append,lk_none (fun e he=>fun e2=>dG e he _ (lk_mem hb') e2)]
   exact hb'
 ·simpa using sp.mem
 ·intro e he
  rcases List.mem_append.1 he with he | he
  ·exact sp.sub e he
  ·exact sp.subG e he
 ·intro e' he' e he
  rw [List.mem_singleton.1 he]
  rcases List.mem_append.1 he' with he' | he'
  ·exact (nl e' he').symm
  ·exact (nG e' he').symm
 ·rintro v H' ⟨Hx,k1,k2,kw,rfl⟩ d1 d2 _
  have k5:=k2.all
  refine ⟨Hx,hQ _ _ _ (fun _ _=>rdObj_app) k1,k5,fun e he e' he'=>(d2 e (List.mem_append_left _ he) e' (List.mem_cons_of_mem _ he')).symm,h6.app kw fun e he e' he'=>d2 e (List.mem_append_right _ he) e' (List.mem_cons_of_mem _ he'),rfl⟩
 ·rintro v H' ⟨Hx,k2,k5,k6,kw,rfl⟩
  refine ⟨(b,RdP l s')::(Hl++(G++Hx)),?_,?_⟩
  ·intro e he
   simp only [List.mem_append,List.mem_cons] at he ⊢
   rcases he with rfl | h | h | h <;> simp [*]
  ·refine hk v (G++Hx) k2 ⟨Nb.of ?_,Dj.iff.2 ?_,fun _ _=>rdObj_app1,kw⟩
   ·intro e he
    rcases List.mem_append.1 he with he | he
    ·exact nG e he
    ·exact k5 e he
   ·intro e he e' he'
    rcases List.mem_append.1 he' with he' | he'
    ·exact (dG e he e' he').symm
    ·exact (k6 e he e' he').symm
end
section
variable {F:Base} {ws:Ws} {l:Value} {b:Nat} {p:St}
theorem pskip_q (hW:HasW F ws l) (hE:EndW ws) (hp:0≤p.p) (t:Str):RpQ F l 39 [.string (bs t)] b p (.bool (isS ws p t)) (if isS ws p t then adv p else p):=fun F' hF hb=>pskip_rd F' (hW.mono hF) hE hb hp t
theorem pfail_q (p:St) (e a:Int):RpQ F l 69 [.int .i64 e,.int .i64 a] b p (.tuple #[]) (failA p e a):=fun F' hF hb=>pfail_rd F' hb p e a
theorem pquoted_q (hW:HasW F ws l) (hE:EndW ws) (hp:0≤p.p):RpQ F l 41 [] b p (.string (bs (takeS ws p 3).1)) (takeS ws p 3).2:=fun F' hF hb=>pquoted_rd F' (hW.mono hF) hE hb hp
theorem puid_q (hws:WsOk ws) (hW:HasW F ws l) (p:St):RpQ F l 72 [] b p (.agg #[.string (bs (uidP ws p).1.1),.string (bs (uidP ws p).1.2)]) (uidP ws p).2:=fun F' hF hb=>puid_rd F' hws (hW.mono hF) hb p
theorem pscope_q (hws:WsOk ws) (hW:HasW F ws l) (hE:EndW ws) (hp:0≤p.p) (nm:Str) (hnm:nm.length≤9223372036854775807):RpQ F l 42 [.string (bs nm)] b p (scV (scopeP ws p nm).1 v0) (scopeP ws p nm).2:=fun F' hF hb=>pscope_rd F' hws (hW.mono hF) hE hb hp nm hnm
end
section
variable {ws:Ws}
theorem Fwd.uidP {s:St}:Fwd 0 s (uidP ws s).2:=by
 unfold Go.Proofs.YtoelfmmfjebabaaGreatDoor.uidP
 split
 ·rename_i he
  split
  ·rename_i h0
   intro _
   refine ⟨he,?_,rfl⟩
   unfold uidR at h0 ⊢
   by_cases h:(uidS ws (st0 s.p)).2.e=0
   ·rw [if_pos h]
    have:=(Fwd.uid h).2.1
    simp only [st0] at this ⊢
    omega
   ·rw [if_neg h] at h0;exact absurd h0 h
  ·rename_i h0;intro h;exact absurd h h0
 ·exact Fwd.refl
theorem uidP_p {s:St} (h:0≤s.p):0≤(uidP ws s).2.p:=by
 unfold uidP
 split
 ·split
  ·rename_i he h0
   show 0≤(uidR ws s.p).2.1
   unfold uidR at h0 ⊢
   by_cases h':(uidS ws (st0 s.p)).2.e=0
   ·rw [if_pos h']
    have:=(Fwd.uid h').2.1
    simp only [st0] at this ⊢
    omega
   ·rw [if_neg h'] at h0;exact absurd h0 h'
  ·exact h
 ·exact h
end
def ActQ (x:Scp) (F:Base) (r:Value):Prop:=∃ va,r=scV x va∧SlU F va x.list
theorem ActQ.mono (x:Scp) (F F':Base) (r:Value) (hF:∀ b o,F b=some o→F' b=some o) (h:ActQ x F r):ActQ x F' r:=by
 obtain ⟨va,h1,h2⟩:=h;exact ⟨va,h1,h2.mono hF⟩
structure AcS where
 n:Nat
 s:St
 us:List (Str×Str)
 v:Value
 Ho:Hp
structure AcOk (F:Base) (ws:Ws) (b b2 b3:Nat) (X:List (Str×Str)×St) (y:AcS):Prop where
 X:uidsF ws y.n y.s y.us=X
 n:(ws.length:Int) - y.s.p < y.n
 p0:0≤y.s.p
 p1:y.s.p≤ws.length
 us:y.us.length≤y.s.p.toNat
 o:OwnS F 2 24 (y.us.map uidC).flatten y.us.length y.v y.Ho
 nb:Nb b y.Ho
 n2:Nb b2 y.Ho
 n3:Nb b3 y.Ho
theorem flat_len2 (us:List (Str×Str)):(us.map uidC).flatten.length=us.length * 2:=by
 induction us with
 | nil=>rfl
 | cons u r ih=>simp only [List.map_cons,List.flatten_cons,List.length_append,List.length_cons,List.length_nil,ih];omega
abbrev acH (l:Value) (b b2 b3:Nat) (s:St) (v:Value) (Ho:Hp):Hp:=(b,RdP l s)::(b3,ScO ⟨5,[],[],[],false,[]⟩ v)::(b2,ScO sc0 v0)::(Ho++[])
theorem paction_does (F:Base) {ws:Ws} (hws:WsOk ws) {l:Value} (hW:HasW F ws l) (hE:EndW ws) {b:Nat} (hFb:F b=none) {p:St} (hp:0≤p.p):Does Tryz.prog F 43 #[.pointer (some ⟨b,0,none⟩)] [(b,RdP l p)] (MkP F l b (actionP ws p).2 (ActQ (actionP ws p).1)):=by
 obtain ⟨bw,cap,sp,T,fz,rfl,hFw,hc,hm,hne⟩:=id hW
 refine Does.mkp ?_
 refine does_of_svc (args:=[.pointer (some ⟨b,0,none⟩)]) mixed Tryz.func43 low43 (Nat.le_of_ble_eq_true rfl) (fun w0 hw0=>?_)
 unfold actionP actN
 clear hFw hc hm hne
 simp only [*,fu43,↓ZD,ZW,RO,simprocAttr]
 refine NewB.n ?_
 rintro b2 ⟨_,_,_⟩ _
 simp only [*,↓ZD,ZW,RO,simprocAttr]
 refine NewB.n ?_
 rintro bz hz hFz
 simp only [Nb_cons,Nb_app,Nb_nil] at hz
 simp only [*,↓ZD,ZW,RO,simprocAttr]
 refine CallE.must1 (p:=p) hW hE hp (by decide) rfl (by simp only [*,↓ZD,ZW,RO,simprocAttr]) hFz (by simp only [*,↓ZD,ZW,RO,simprocAttr]) ?_
 clear hz hFz
 have hs1:=mustS_p (ws:=ws) (t:=[97,99,116,105,111,110]) hp
 generalize mustS ws p [97,99,116,105,111,110]=s1 at *
 clear hp
 simp only [*,List.append_nil,↓ZD,ZW,RO,simprocAttr]
 refine CallE.rpq (pskip_q hW hE hs1 _) rfl (by simp only [*,List.append_nil,↓ZD,ZW,RO,simprocAttr]) ?_
 cases i1:isS ws s1 [61,61] with
 | true=>
  have hr:=isS_range i1
  simp only [if_true]
  simp only [*,List.append_nil,↓ZD,ZW,RO,simprocAttr]
  refine CallE.rpq (puid_q hws hW (adv s1)) rfl (by simp only [*,List.append_nil,↓ZD,ZW,RO,simprocAttr]) ?_
  unfold actUid
  generalize uidP ws (adv s1)=u
  simp only [*,List.append_nil,↓ZD,ZW,RO,simprocAttr]
  exact ⟨[],⟨v0,rfl,SlU.nil⟩,trivial,Wk.nil,by simp,by simp⟩
 | false =>
  simp only [if_false,Bool.false_eq_true]
  simp only [*,List.append_nil,↓ZD,ZW,RO,simprocAttr]
  refine CallE.rpq (pskip_q hW hE hs1 _) rfl (by simp only [*,List.append_nil,↓ZD,ZW,RO,simprocAttr]) ?_
  cases i2:isS ws s1 [105,110] with
  | false=>
   simp only [if_true,if_false,Bool.false_eq_true]
   simp only [*,List.append_nil,↓ZD,ZW,RO,simprocAttr]
   exact ⟨[],⟨v0,rfl,SlU.nil⟩,trivial,Wk.nil,by simp,by simp⟩
  | true =>
   have hr:=isS_range i2
   simp only [if_true,if_false,Bool.true_eq_false]
   simp only [*,List.append_nil,↓ZD,ZW,RO,simprocAttr]
   refine CallE.rpq (pskip_q (p:=adv s1) hW hE (by show 0≤s1.p+1;omega) _) rfl (by simp only [*,List.append_nil,↓ZD,ZW,RO,simprocAttr]) ?_
   cases i3:isS ws (adv s1) [91] with
   | false=>
    simp only [if_true,if_false,Bool.false_eq_true]
    simp only [*,List.append_nil,↓ZD,ZW,RO,simprocAttr]
    refine CallE.rpq (puid_q hws hW (adv s1)) rfl (by simp only [*,List.append_nil,↓ZD,ZW,RO,simprocAttr]) ?_
    unfold actUid
    generalize uidP ws (adv s1)=u
    simp only [*,List.append_nil,↓ZD,ZW,RO,simprocAttr]
    exact ⟨[],⟨v0,rfl,SlU.nil⟩,trivial,Wk.nil,by simp,by simp⟩
   | true =>
    have hr3:=isS_range i3
    have hr4:0≤(adv (adv s1)).p∧(adv (adv s1)).p≤ws.length:=by
     have e1:(adv (adv s1)).p=(adv s1).p+1:=rfl
     omega
    generalize adv (adv s1)=s2 at *
    clear hr3 hr hs1 i1 i2 i3
    simp only [if_true,if_false,Bool.true_eq_false]
    simp only [*,List.append_nil,↓ZD,ZW,RO,simprocAttr]
    refine NewB.n ?_
    rintro b3 ⟨_,_,_,_,_⟩ _
    simp only [*,List.append_nil,↓ZD,ZW,RO,simprocAttr]
    refine CallE.rpq (pskip_q (p:=s2) hW hE hr4.1 _) rfl (by simp only [*,List.append_nil,↓ZD,ZW,RO,simprocAttr]) ?_
    cases i4:isS ws s2 [93] with
    | true=>
     have hr:=isS_range i4
     simp only [if_true]
     simp only [*,List.append_nil,↓ZD,ZW,RO,simprocAttr]
     exact ⟨[],⟨v0,rfl,SlU.nil⟩,trivial,Wk.nil,by simp,by simp⟩
    | false=>
     simp only [if_false,Bool.false_eq_true]
     simp only [*,List.append_nil,↓ZD,ZW,RO,simprocAttr]
     generalize hX:uidsF ws (ws.length+1) s2 []=X
     obtain ⟨hp0,hp1⟩:=hr4
     clear i4
     refine TreeL.cut (α:=Hp×Value) (fun y=>OwnS F 2 24 ((([]:List (Str×Str))++[(uidP ws s2).1]).map uidC).flatten (([]:List (Str×Str))++[(uidP ws s2).1]).length y.2 y.1∧Nb b y.1∧Nb b2 y.1∧Nb b3 y.1)
      (fun y=>[(0,some (.pointer (some ⟨b,0,none⟩))),(2,some (.pointer (some ⟨b2,0,none⟩))),(3,some (.pointer (some ⟨b3,0,none⟩)))]) (fun y=>acH (.slice (some ⟨bw,0,none⟩) ws.length cap) b b2 b3 (uidP ws s2).2 y.2 y.1) ?_ ?_
     ·simp only [*,↓ZD,ZW,RO,simprocAttr]
      refine ⟨?_,?_⟩
      iterate 2
       ·refine CallE.rpq (puid_q hws hW s2) rfl (by simp only [*,List.append_nil,↓ZD,ZW,RO,simprocAttr]) ?_
        simp only [*,List.append_assoc,List.append_nil,↓ZD,ZW,RO,simprocAttr]
        refine NewB.n ?_
        intro bz hz hFz
        simp only [Nb_cons,Nb_app,Nb_nil] at hz
        simp only [*,List.append_assoc,↓ZD,ZW,RO,simprocAttr]
        refine EfL.grow (Hr:=_) (m:=1) (nw:=uidC (uidP ws s2).1) .nil (fun e h=>by cases h) (fun e h=>h) (fun _ _ e h=>by cases h) (by rw [rowsOf_sl,cellsAt_O,rdObj_own hFz];simp only [lk, *];rfl) rfl (by simp [oneCell]) (by simp) (by decide) ?_
        intro bn capn sp2 hs hcap hcm hFn h2
        try replace h2:=Nb.of h2
        simp only [Nb_cons,Nb_app,Nb_nil] at h2
        simp only [*,List.append_assoc,↓ZD,ZW,RO,simprocAttr]
        refine CutK.on ([(bn,.cells ((([]:List (Str×Str)).map uidC).flatten++uidC (uidP ws s2).1++sp2).toArray 24 (0,0))],.slice (some ⟨bn,0,none⟩) (([]:List (Str×Str)).length+1) capn) ⟨OwnS.mk sp2 hFn (by simp) (by simp) (by rw [flat_len2];simp) (by simpa using hs) (by simpa using hcap) hcm,by simp only [*,↓ZD,ZW,RO,simprocAttr],by simp only [*,↓ZD,ZW,RO,simprocAttr],by simp only [*,↓ZD,ZW,RO,simprocAttr]⟩ (by simp only [*,↓ZD,ZW,RO,simprocAttr]) ?_
        simp only [*,List.append_assoc,↓ZD,ZW,RO,simprocAttr]
        try exact ⟨rfl,rfl⟩
     ·rintro ⟨Ho2,v2⟩ ⟨ho2,nb2,nbb2,nb32⟩
      dsimp only at ho2 nb2 nbb2 nb32 ⊢
      have nf2:=ho2.noF
      have wk2:=OwnS.sub ho2
      have hv2:oneCell v2=true:=by obtain ⟨_,_,rfl,_⟩:=ho2.len_le;rfl
      have hq0:=uidP_p (ws:=ws) (s:=s2) hp0
      have hX2:(if isS ws (uidP ws s2).2 [44] then uidsF ws ws.length (adv (uidP ws s2).2) (([]:List (Str×Str))++[(uidP ws s2).1]) else (([]:List (Str×Str))++[(uidP ws s2).1],(uidP ws s2).2))=X:=hX
      have hfw:isS ws (uidP ws s2).2 [44]=true→s2.p≤(uidP ws s2).2.p:=fun h=>by have:=(Fwd.uidP (ws:=ws) (s:=s2) (isS_ok h)).2.1;omega
      generalize uidP ws s2=u at *
      simp only [*,↓ZD,ZW,RO,simprocAttr]
      refine CallE.rpq (pskip_q (p:=u.2) hW hE hq0 _) rfl (by simp only [*,List.append_nil,↓ZD,ZW,RO,simprocAttr]) ?_
      cases i5:isS ws u.2 [44] with
      | true=>
       have hr5:=isS_range i5
       replace hfw:=hfw i5
       rw [i5,if_pos rfl] at hX2
       simp only [if_true]
       have q1:(adv u.2).p=u.2.p+1:=rfl
       simp only [*,List.append_nil,↓ZD,ZW,RO,simprocAttr]
       refine JmpL.inv (AcOk F ws b b2 b3 X) (fun y=>[(0,some (.pointer (some ⟨b,0,none⟩))),(2,some (.pointer (some ⟨b2,0,none⟩))),(3,some (.pointer (some ⟨b3,0,none⟩)))]) (fun y=>acH (.slice (some ⟨bw,0,none⟩) ws.length cap) b b2 b3 y.s y.v y.Ho) (fun y=>y.n) ⟨ws.length,adv u.2,[u.1],v2,Ho2⟩ ⟨hX2,by simp only;omega,by simp only;omega,by simp only;omega,by simp;omega,ho2,nb2,nbb2,nb32⟩ (by simp only [*,↓ZD,ZW,RO,simprocAttr]) (by simp only [*,↓ZD,ZW,RO,simprocAttr]) ?_
       rintro ⟨n,s3,us,v3,Ho3⟩ ⟨hX3,hn3,hp30,hp31,hus,ho3,nb3,nbb3,nb33⟩
       clear hX2 hX hq0 i5 hr5 hfw q1 ho2 nb2 nbb2 nb32 nf2 wk2 hv2 hp0 hp1
       clear Ho2 v2 u s2
       dsimp only at hX3 hn3 hp30 hp31 hus ho3 nb3 nbb3 nb33 ⊢
       unfold acH
       have nf3:=ho3.noF
       have wk3:=OwnS.sub ho3
       obtain ⟨base3,cap3,hv3,hc3⟩:=ho3.len_le
       subst hv3
       have hws1:=hws.1
       obtain ⟨n,rfl⟩:∃ m,n=m+1:=⟨n - 1,by omega⟩
       simp only [*,↓ZD,ZW,RO,simprocAttr]
       refine TreeL.cut (α:=Hp×Value) (fun y=>OwnS F 2 24 ((us++[(uidP ws s3).1]).map uidC).flatten (us++[(uidP ws s3).1]).length y.2 y.1∧Nb b y.1∧Nb b2 y.1∧Nb b3 y.1)
        (fun y=>[(0,some (.pointer (some ⟨b,0,none⟩))),(2,some (.pointer (some ⟨b2,0,none⟩))),(3,some (.pointer (some ⟨b3,0,none⟩)))]) (fun y=>acH (.slice (some ⟨bw,0,none⟩) ws.length cap) b b2 b3 (uidP ws s3).2 y.2 y.1) ?_ ?_
       ·simp only [*,↓ZD,ZW,RO,simprocAttr]
        refine ⟨?_,?_⟩
        iterate 2
         ·refine CallE.rpq (puid_q hws hW s3) rfl (by simp only [*,List.append_nil,↓ZD,ZW,RO,simprocAttr]) ?_
          simp only [*,List.append_assoc,List.append_nil,↓ZD,ZW,RO,simprocAttr]
          refine NewB.n ?_
          intro bz hz hFz
          simp only [Nb_cons,Nb_app,Nb_nil] at hz
          simp only [*,List.append_assoc,↓ZD,ZW,RO,simprocAttr]
          refine EfL.more (m:=1) (nw:=uidC (uidP ws s3).1) ho3 (by simp only [*,Nb_cons,Nb_nil,Dj_cons,Dj_nil,and_self,and_true]) (by rw [rowsOf_sl,cellsAt_O,rdObj_own hFz];simp only [lk, *];rfl) rfl (by simp [oneCell]) (by simp) (by omega) ?_
          intro bn capn sp2 hs hcap hcm hFn h2
          try replace h2:=Nb.of h2
          simp only [Nb_cons,Nb_app,Nb_nil] at h2
          simp only [*,List.append_assoc,↓ZD,ZW,RO,simprocAttr]
          refine CutK.on ([(bn,.cells ((us.map uidC).flatten++uidC (uidP ws s3).1++sp2).toArray 24 (0,0))],.slice (some ⟨bn,0,none⟩) (us.length+1) capn) ⟨OwnS.mk sp2 hFn (by simp) (by simp) (by rw [flat_len2];simp) (by simpa using hs) (by simpa using hcap) hcm,by simp only [*,↓ZD,ZW,RO,simprocAttr],by simp only [*,↓ZD,ZW,RO,simprocAttr],by simp only [*,↓ZD,ZW,RO,simprocAttr]⟩ (by simp only [*,↓ZD,ZW,RO,simprocAttr]) ?_
          simp only [*,List.append_assoc,↓ZD,ZW,RO,simprocAttr]
          try exact ⟨rfl,rfl⟩
       ·rintro ⟨Ho2,v2⟩ ⟨ho2,nb2,nbb2,nb32⟩
        dsimp only at ho2 nb2 nbb2 nb32 ⊢
        have nf2:=ho2.noF
        have wk2:=OwnS.sub ho2
        have hv2:oneCell v2=true:=by obtain ⟨_,_,rfl,_⟩:=ho2.len_le;rfl
        have hq0:=uidP_p (ws:=ws) (s:=s3) hp30
        have hX2:(if isS ws (uidP ws s3).2 [44] then uidsF ws n (adv (uidP ws s3).2) (us++[(uidP ws s3).1]) else (us++[(uidP ws s3).1],(uidP ws s3).2))=X:=hX3
        have hfw:isS ws (uidP ws s3).2 [44]=true→s3.p≤(uidP ws s3).2.p:=fun h=>by have:=(Fwd.uidP (ws:=ws) (s:=s3) (isS_ok h)).2.1;omega
        generalize uidP ws s3=u at *
        simp only [*,↓ZD,ZW,RO,simprocAttr]
        refine CallE.rpq (pskip_q (p:=u.2) hW hE hq0 _) rfl (by simp only [*,List.append_nil,↓ZD,ZW,RO,simprocAttr]) ?_
        cases i5:isS ws u.2 [44] with
        | true=>
         have hr5:=isS_range i5
         replace hfw:=hfw i5
         rw [i5,if_pos rfl] at hX2
         simp only [if_true]
         have q1:(adv u.2).p=u.2.p+1:=rfl
         simp only [*,List.append_nil,↓ZD,ZW,RO,simprocAttr]
         refine JmpK.on ⟨n,adv u.2,us++[u.1],v2,Ho2⟩ ⟨hX2,by simp only;omega,by simp only;omega,by simp only;omega,by simp;omega,ho2,nb2,nbb2,nb32⟩ (by simp only;omega) (by simp only [*,↓ZD,ZW,RO,simprocAttr]) (by simp only [*,↓ZD,ZW,RO,simprocAttr])
        | false=>
         rw [i5,if_neg (by simp)] at hX2
         clear hfw
         simp only [if_false,Bool.false_eq_true]
         simp only [*,List.append_nil,↓ZD,ZW,RO,simprocAttr]
         refine NewB.n ?_
         rintro bz hz hFz
         simp only [Nb_cons,Nb_app,Nb_nil] at hz
         simp only [*,↓ZD,ZW,RO,simprocAttr]
         refine CallE.must1 (p:=u.2) hW hE hq0 (by decide) rfl (by simp only [*,↓ZD,ZW,RO,simprocAttr]) hFz (by simp only [*,↓ZD,ZW,RO,simprocAttr]) ?_
         clear hz hFz
         subst hX2
         simp only [*,List.append_nil,↓ZD,ZW,RO,simprocAttr]
         exact ⟨Ho2,⟨v2,rfl,SlN.own (T:=24) (by simpa using ho2) (fun g hg=>by obtain ⟨u,-,rfl⟩:=List.mem_map.1 hg;rfl) (fun e he=>wk2 e he)⟩,nb2,wk2,by simp,by simp +contextual⟩
      | false=>
       rw [i5,if_neg (by simp)] at hX2
       clear hfw
       simp only [if_false,Bool.false_eq_true]
       simp only [*,List.append_nil,↓ZD,ZW,RO,simprocAttr]
       refine NewB.n ?_
       rintro bz hz hFz
       simp only [Nb_cons,Nb_app,Nb_nil] at hz
       simp only [*,↓ZD,ZW,RO,simprocAttr]
       refine CallE.must1 (p:=u.2) hW hE hq0 (by decide) rfl (by simp only [*,↓ZD,ZW,RO,simprocAttr]) hFz (by simp only [*,↓ZD,ZW,RO,simprocAttr]) ?_
       clear hz hFz
       subst hX2
       simp only [*,List.append_nil,↓ZD,ZW,RO,simprocAttr]
       exact ⟨Ho2,⟨v2,rfl,SlN.own (T:=24) (by simpa using ho2) (fun g hg=>by obtain ⟨u,-,rfl⟩:=List.mem_map.1 hg;rfl) (fun e he=>wk2 e he)⟩,nb2,wk2,by simp,by simp +contextual⟩
abbrev PolO (x:Pol) (va vc:Value):Obj:=.cells #[.string (bs x.id),.bool x.permit,.int .i64 x.p.kind,.string (bs x.p.ty),.string (bs x.p.ut),.string (bs x.p.ui),.bool x.p.slot,.slice none 0 0,
  .int .i64 x.a.kind,.string (bs x.a.ty),.string (bs x.a.ut),.string (bs x.a.ui),.bool x.a.slot,va,
  .int .i64 x.r.kind,.string (bs x.r.ty),.string (bs x.r.ut),.string (bs x.r.ui),.bool x.r.slot,.slice none 0 0,vc] 51 (0,0)
def CnP (F:Base) (l:Value) (b bp:Nat) (va:Value) (y:Pol×St) (r:Value) (H':Hp):Prop:=r=.tuple #[]∧∃ vc gs Hk G,OwnS F 13 78 gs.flatten gs.length vc Hk∧All2 (CondR (rdObj F G)) gs y.1.conds∧Nb b Hk∧Nb bp Hk∧Nb b G∧Nb bp G∧Dj Hk G∧Wk G∧H'=(b,RdP l y.2)::(bp,PolO y.1 va vc)::(Hk++G)
theorem CallE.mk0 {X:List Nat} {F:Base} {w0:World} {f:Nat} {args:Array Value} {H:Hp} {Q K:Value→Hp→Prop} (h:Does Tryz.prog F f args [] Q) (hk:∀ v H1,Q v H1→Dj H H1→K v (H++H1)):@CallE Tryz.prog X F w0 f args H ⟨K⟩:=
 CallG.frame (F1:=F) (H0:=[]) (Hr:=H) h le_up (fun e h=>by cases h) (fun e h=>h) (fun e' _ e h=>by cases h) fun v H' hq _ d _=>hk v H' hq (Dj.iff.2 fun e he e' he'=>d e he e' he')
theorem hle_sub {G H:Hp}:HLe G H→∀ e∈G,lk H e.1=some e.2:=by
 induction G with
 | nil=>intro _ e h;cases h
 | cons x r ih=>
  obtain ⟨b,o⟩:=x
  intro h e he
  rcases List.mem_cons.1 he with rfl | he
  ·exact h.1
  ·exact ih h.2 e he
theorem hle_rd {F:Base} {G H:Hp} (h:HLe G H) {b:Nat} {o:Obj} (hb:rdObj F G b=some o):rdObj F H b=some o:=rdObj_sub (hle_sub h) hb
theorem flat13 {F:Base} {gs:List (List Value)} {cs:List (Bool×Ex')} (h:All2 (CondR F) gs cs):gs.flatten.length=gs.length * 13:=by
 have:=All2.all (P:=fun g:List Value=>g.length=13) (fun _ _ h=>CondR.len h) h
 clear h
 induction gs with
 | nil=>rfl
 | cons x r ih=>rw [List.flatten_cons,List.length_append,this x List.mem_cons_self,ih fun c hc=>this c (List.mem_cons_of_mem _ hc),List.length_cons];omega
theorem rows1 {F:Base} {H:Hp} {bz T n c:Nat} {cs:List Value} (hF:F bz=none) (h:cs.length=n):rowsOf F ((bz,.cells cs.toArray T (0,0))::H) n (.slice (some ⟨bz,0,none⟩) 1 c)=some (1,cs):=by
 rw [rowsOf_sl,cellsAt_O,rdObj_hd hF,cellsO_of,if_pos (by omega),Nat.one_mul,List.drop_zero,List.take_of_length_le (by omega)]
 rfl
structure RdC where
 cs:List Value
 Hx:Hp
 b7:Nat
set_option maxHeartbeats 4000000 in
theorem pcond_does (F:Base) (hMx:HasMx F) {ws:Ws} (hws:WsOk ws) {l:Value} (hW:HasW F ws l) (hE:EndW ws) (hWE:WsEnd ws) {b bp:Nat} (hbp:b≠bp) (hFb:F b=none) (hFp:F bp=none) {s:St} (hp:0≤s.p) (hI:s.e=0→InS ws s) (x:Pol) (va:Value) (wh:Bool) {vc:Value} {gs:List (List Value)} {Hk:Hp}
  (ho:OwnS F 13 78 gs.flatten gs.length vc Hk) (hr:All2 (CondR F) gs x.conds) (n1:Nb b Hk) (n2:Nb bp Hk) (hcl:x.conds.length≤70000) (hva:oneCell va=true) :
  Does Tryz.prog F 44 #[.pointer (some ⟨b,0,none⟩),.pointer (some ⟨bp,0,none⟩),.bool wh] ((b,RdP l s)::(bp,PolO x va vc)::Hk) (CnP F l b bp va (condP ws x wh s)):=by
 obtain ⟨bw,cap,sp,T,fz,rfl,hFw,hc,hm,hne⟩:=id hW
 have hbp':=hbp.symm
 have nf:=ho.noF
 have wk:=OwnS.sub ho
 obtain ⟨base,capk,hvc,hck⟩:=ho.len_le
 subst hvc
 have hgl:gs.length≤70000:=by have:=hr.len;omega
 have f13:=flat13 hr
 have hs1:=mustS_p (ws:=ws) (t:=[123]) hp
 have hI1:(mustS ws s [123]).e=0→InS ws (mustS ws s [123]):=fun he=>((Inn.must hWE) he).2 (hI (must_e he))
 generalize hY:condP ws x wh s=Y
 unfold condP at hY
 dsimp only at hY
 refine Does.shr (K:=fun r H'=>r=.tuple #[]∧∃ vc gs Hk G,OwnS F 13 78 gs.flatten gs.length vc Hk∧All2 (CondR (rdObj F G)) gs Y.1.conds∧Nb b Hk∧Nb bp Hk∧Nb b G∧Nb bp G∧Dj Hk G∧Wk G∧∀ e∈(b,RdP (.slice (some ⟨bw,0,none⟩) ws.length cap) Y.2)::(bp,PolO Y.1 va vc)::(Hk++G),e∈H') ?_
  fun r H' ⟨h1,vc,gs,Hk,G,a1,a2,a3,a4,a5,a6,a7,a8,a9⟩=>⟨_,a9,h1,vc,gs,Hk,G,a1,a2,a3,a4,a5,a6,a7,a8,rfl⟩
 refine does_of_svc (args:=[.pointer (some ⟨b,0,none⟩),.pointer (some ⟨bp,0,none⟩),.bool wh]) mixed Tryz.func44 low44 (Nat.le_of_ble_eq_true rfl) (fun w0 hw0=>?_)
 clear hFw hc hm hne
 simp only [*,fu44,↓ZD,ZW,RO,simprocAttr]
 refine NewB.n ?_
 rintro bz hz hFz
 simp only [Nb_cons,Nb_app,Nb_nil] at hz
 simp only [*,↓ZD,ZW,RO,simprocAttr]
 refine CallE.must1 (p:=s) hW hE hp (by decide) rfl (by simp only [*,↓ZD,ZW,RO,simprocAttr]) hFz (by simp only [*,↓ZD,ZW,RO,simprocAttr]) ?_
 clear hz hFz
 generalize mustS ws s [123]=s1 at *
 clear hp hI
 by_cases he:s1.e=0
 ·have hI1:=hI1 he
  have hd:(s1.e != 0)=false:=by simpa using he
  rw [if_neg (by simpa using he)] at hY
  replace he:id (s1.e=0):=he
  simp only [*,↓ZD,ZW,RO,simprocAttr]
  have hb:rdObj F ((b,RdP (.slice (some ⟨bw,0,none⟩) ws.length cap) s1)::(bp,PolO x va (.slice base gs.length capk))::Hk) b=some (RdP (.slice (some ⟨bw,0,none⟩) ws.length cap) s1):=rdObj_hd hFb
  refine CallE.pureH (pword_pure _ (hW.mono le_up) hE hs1 hb) ?_
  clear hb
  simp only [*,wf3,wsz,↓ZD,ZW,RO,simprocAttr]
  have hin:=read_in hWE (i:=s1.p) hI1
  have hrd:=read_does F hMx hws hW s1.p
  generalize readS ws s1.p=R at *
  obtain ⟨t,k,e,bad⟩:=R
  dsimp only at hin hY
  refine TreeL.cut (α:=RdC) (fun y=>Ok12 y.cs∧RepP (rdObj F y.Hx) y.cs t∧Wk y.Hx∧F y.b7=none∧Nb b y.Hx∧Nb bp y.Hx∧Nb y.b7 y.Hx∧Nb y.b7 Hk∧b≠y.b7∧y.b7≠b∧bp≠y.b7∧y.b7≠bp∧Dj Hk y.Hx)
   (fun y=>[(0,some (.pointer (some ⟨b,0,none⟩))),(1,some (.pointer (some ⟨bp,0,none⟩))),(2,some (.bool wh)),(6,some (.int .i64 (wdAt ws s1.p).2)),(7,some (.pointer (some ⟨y.b7,0,none⟩))),(8,some (.int .i64 k)),(9,some (.int .i64 e)),(10,some (.int .i64 bad))])
   (fun y=>(y.b7,.cells y.cs.toArray 31 (0,0))::(b,RdP (.slice (some ⟨bw,0,none⟩) ws.length cap) s1)::(bp,PolO x va (.slice base gs.length capk))::(Hk++y.Hx)) ?_ ?_
  ·simp only [*,↓ZD,ZW,RO,simprocAttr]
   refine ⟨?_,?_⟩
   ·refine CallE.mk0 hrd ?_
    rintro v Hx ⟨cs,rfl,hc,hr2,hw2⟩ hd2
    simp only [Dj_cons] at hd2
    have cok:=hc.2.1
    simp only [*,↓ZD,ZW,RO,simprocAttr]
    refine NewB.n ?_
    intro b7 h7 hF7
    simp only [Nb_cons,Nb_app,Nb_nil] at h7
    simp only [*,↓ZD,ZW,RO,simprocAttr]
    exact CutK.on ⟨cs,Hx,b7⟩ ⟨hc,hr2,hw2,hF7,by simp only [*,↓ZD,ZW,RO,simprocAttr],by simp only [*,↓ZD,ZW,RO,simprocAttr],by simp only [*,↓ZD,ZW,RO,simprocAttr],by simp only [*,↓ZD,ZW,RO,simprocAttr],by simp only [*,↓ZD,ZW,RO,simprocAttr],by simp only [*,↓ZD,ZW,RO,simprocAttr],by simp only [*,↓ZD,ZW,RO,simprocAttr],by simp only [*,↓ZD,ZW,RO,simprocAttr],by simp only [*,↓ZD,ZW,RO,simprocAttr]⟩ (by simp only [*,↓ZD,ZW,RO,simprocAttr]) (by simp only [*,↓ZD,ZW,RO,simprocAttr])
   ·refine NewB.n ?_
    intro b7 h7 hF7
    simp only [Nb_cons,Nb_app,Nb_nil] at h7
    simp only [*,↓ZD,ZW,RO,simprocAttr]
    refine CallE.mk0 hrd ?_
    rintro v Hx ⟨cs,rfl,hc,hr2,hw2⟩ hd2
    simp only [Dj_cons] at hd2
    have cok:=hc.2.1
    simp only [*,↓ZD,ZW,RO,simprocAttr]
    exact CutK.on ⟨cs,Hx,b7⟩ ⟨hc,hr2,hw2,hF7,by simp only [*,↓ZD,ZW,RO,simprocAttr],by simp only [*,↓ZD,ZW,RO,simprocAttr],by simp only [*,↓ZD,ZW,RO,simprocAttr],by simp only [*,↓ZD,ZW,RO,simprocAttr],by simp only [*,↓ZD,ZW,RO,simprocAttr],by simp only [*,↓ZD,ZW,RO,simprocAttr],by simp only [*,↓ZD,ZW,RO,simprocAttr],by simp only [*,↓ZD,ZW,RO,simprocAttr],by simp only [*,↓ZD,ZW,RO,simprocAttr]⟩ (by simp only [*,↓ZD,ZW,RO,simprocAttr]) (by simp only [*,↓ZD,ZW,RO,simprocAttr])
  ·rintro ⟨cs,Hx,b7⟩ ⟨hc,hr2,hw2,hF7,x1,x2,x3,x4,x5,x6,x7,x8,x9⟩
   dsimp only at hc hr2 hw2 hF7 x1 x2 x3 x4 x5 x6 x7 x8 x9 ⊢
   clear hrd
   have x9':=x9.symm
   have hal:∀ v∈Value.bool wh::cs,oneCell v=true:=by
    have:=hc.2.1
    simp only [Bool.and_eq_true,List.all_eq_true] at this
    intro v hv
    rcases List.mem_cons.1 hv with rfl | hv
    ·rfl
    ·exact this.1 v hv
   have cok:=hc.2.1
   simp only [*,↓ZD,ZW,RO,simprocAttr]
   refine ⟨fun h=>?_,fun h=>?_⟩
   ·have he2:e≠0:=by simpa using h
    rw [if_pos he2] at hY
    refine CallE.rpq (pfail_q s1 e bad) rfl (by simp only [*,↓ZD,ZW,RO,simprocAttr]) ?_
    rw [show failA s1 e bad=⟨s1.p,s1.deep,e,bad⟩ from if_pos he]
    subst hY
    simp only [*,↓ZD,ZW,RO,simprocAttr]
    exact ⟨_,gs,Hk,[],ho,hr.mono fun _ _=>CondR.mono le_up,n1,n2,trivial,trivial,Dj_z.mpr trivial,Wk.nil,by simp +contextual⟩
   ·have he2:e=0:=by simpa using h
    rw [if_neg (by simpa using he2)] at hY
    obtain ⟨i1,i2,i3⟩:=hin he2
    clear hin
    have h2:=mustS_p (ws:=ws) (p:=⟨k,s1.deep,s1.e,s1.bad⟩) (t:=[125]) i1
    refine NewB.n ?_
    rintro bz hz hFz
    simp only [Nb_cons,Nb_app,Nb_nil] at hz
    simp only [*,↓ZD,ZW,RO,simprocAttr]
    refine CallE.must1 (p:=(⟨k,s1.deep,s1.e,s1.bad⟩:St)) hW hE i1 (by decide) rfl (by simp only [*,↓ZD,ZW,RO,simprocAttr]) hFz (by simp only [*,↓ZD,ZW,RO,simprocAttr]) ?_
    clear hz hFz
    generalize mustS ws ⟨k,s1.deep,s1.e,s1.bad⟩ [125]=s2 at *
    have hlen:=hws.1
    simp only [*,↓ZD,ZW,RO,simprocAttr]
    refine CallE.pureH (dep_pure _ (hr2.mono fun _ _ h=>hle_rd (by simp only [*,↓ZD,ZW,RO,simprocAttr]) h).toX (by omega)) ?_
    by_cases hdp:50 < depX t
    ·have hdd:decide ((50:Int) < (depX t:Int))=true:=by simp;omega
     rw [if_pos hdp] at hY
     simp only [*,↓ZD,ZW,RO,simprocAttr]
     refine CallE.rpq (pfail_q s2 11 _) rfl (by simp only [*,↓ZD,ZW,RO,simprocAttr]) ?_
     generalize failA s2 11 (wdAt ws s1.p).2=s3 at *
     simp only [*,↓ZD,ZW,RO,simprocAttr]
     have hrX:RepX (rdObj F ((b,RdP (.slice (some ⟨bw,0,none⟩) ws.length cap) s3)::(b7,.cells cs.toArray 31 (0,0))::(bp,PolO x va (.slice base gs.length capk))::(Hk++Hx))) cs t:=(hr2.mono fun _ _ h=>hle_rd (by simp only [*,↓ZD,ZW,RO,simprocAttr]) h).toX
     refine CallQ.of _ (fun _=>slots_pure _ prN hrX) ?_
     simp only [*,↓ZD,ZW,RO,simprocAttr]
     refine CallQ.of _ (fun _=>slots_pure _ reN hrX) ?_
     clear hrX
     simp only [*,↓ZD,ZW,RO,simprocAttr]
     refine ⟨fun h=>?_,fun h=>?_⟩
     ·rw [if_pos h] at hY
      refine CallE.rpq (pfail_q s3 32 _) rfl (by simp only [*,↓ZD,ZW,RO,simprocAttr]) ?_
      generalize failA s3 32 (wdAt ws s1.p).2=s4 at *
      simp only [*,↓ZD,ZW,RO,simprocAttr]
      refine NewB.n ?_
      intro bz hz hFz
      simp only [Nb_cons,Nb_app,Nb_nil] at hz
      simp only [*,↓ZD,ZW,RO,simprocAttr]
      refine EfL.more (m:=1) (nw:=.bool wh::cs) ho (by simp only [*,↓ZD,ZW,RO,simprocAttr]) ?_ (by simp [hc.1]) hal (by simp) (by omega) ?_
      ·exact rows1 hFz (by simp [hc.1])
      intro bk capn sp2 hs hcap hcm hFn h2
      simp only [Nb_cons,Nb_app,Nb_nil] at h2
      simp only [*,↓ZD,ZW,RO,simprocAttr]
      subst hY
      exact ⟨.slice (some ⟨bk,0,none⟩) (gs.length+1) capn,gs++[.bool wh::cs],[(bk,.cells (gs.flatten++.bool wh::cs++sp2).toArray 78 (0,0))],Hx,OwnS.mk sp2 hFn (by simp) (by simp) (by simp only [List.flatten_append,List.length_append,f13,List.flatten_cons,List.flatten_nil,List.append_nil,List.length_cons,List.length_nil,hc.1];omega) (by simpa using hs) (by simpa using hcap) hcm,(hr.mono fun _ _=>CondR.mono le_up).snoc ⟨cs,rfl,hr2⟩,by simp only [*,↓ZD,ZW,RO,simprocAttr],by simp only [*,↓ZD,ZW,RO,simprocAttr],by simp only [*,↓ZD,ZW,RO,simprocAttr],by simp only [*,↓ZD,ZW,RO,simprocAttr],by simp only [*,↓ZD,ZW,RO,simprocAttr],hw2,by simp +contextual⟩
     ·rw [if_neg (by simpa using h)] at hY
      refine NewB.n ?_
      intro bz hz hFz
      simp only [Nb_cons,Nb_app,Nb_nil] at hz
      simp only [*,↓ZD,ZW,RO,simprocAttr]
      refine EfL.more (m:=1) (nw:=.bool wh::cs) ho (by simp only [*,↓ZD,ZW,RO,simprocAttr]) ?_ (by simp [hc.1]) hal (by simp) (by omega) ?_
      ·exact rows1 hFz (by simp [hc.1])
      intro bk capn sp2 hs hcap hcm hFn h2
      simp only [Nb_cons,Nb_app,Nb_nil] at h2
      simp only [*,↓ZD,ZW,RO,simprocAttr]
      subst hY
      exact ⟨.slice (some ⟨bk,0,none⟩) (gs.length+1) capn,gs++[.bool wh::cs],[(bk,.cells (gs.flatten++.bool wh::cs++sp2).toArray 78 (0,0))],Hx,OwnS.mk sp2 hFn (by simp) (by simp) (by simp only [List.flatten_append,List.length_append,f13,List.flatten_cons,List.flatten_nil,List.append_nil,List.length_cons,List.length_nil,hc.1];omega) (by simpa using hs) (by simpa using hcap) hcm,(hr.mono fun _ _=>CondR.mono le_up).snoc ⟨cs,rfl,hr2⟩,by simp only [*,↓ZD,ZW,RO,simprocAttr],by simp only [*,↓ZD,ZW,RO,simprocAttr],by simp only [*,↓ZD,ZW,RO,simprocAttr],by simp only [*,↓ZD,ZW,RO,simprocAttr],by simp only [*,↓ZD,ZW,RO,simprocAttr],hw2,by simp +contextual⟩
    ·have hdd:decide ((50:Int) < (depX t:Int))=false:=by simp;omega
     rw [if_neg hdp] at hY
     simp only [*,↓ZD,ZW,RO,simprocAttr]
     have hrX:RepX (rdObj F ((b,RdP (.slice (some ⟨bw,0,none⟩) ws.length cap) s2)::(b7,.cells cs.toArray 31 (0,0))::(bp,PolO x va (.slice base gs.length capk))::(Hk++Hx))) cs t:=(hr2.mono fun _ _ h=>hle_rd (by simp only [*,↓ZD,ZW,RO,simprocAttr]) h).toX
     refine CallQ.of _ (fun _=>slots_pure _ prN hrX) ?_
     simp only [*,↓ZD,ZW,RO,simprocAttr]
     refine CallQ.of _ (fun _=>slots_pure _ reN hrX) ?_
     clear hrX
     simp only [*,↓ZD,ZW,RO,simprocAttr]
     refine ⟨fun h=>?_,fun h=>?_⟩
     ·rw [if_pos h] at hY
      refine CallE.rpq (pfail_q s2 32 _) rfl (by simp only [*,↓ZD,ZW,RO,simprocAttr]) ?_
      generalize failA s2 32 (wdAt ws s1.p).2=s4 at *
      simp only [*,↓ZD,ZW,RO,simprocAttr]
      refine NewB.n ?_
      intro bz hz hFz
      simp only [Nb_cons,Nb_app,Nb_nil] at hz
      simp only [*,↓ZD,ZW,RO,simprocAttr]
      refine EfL.more (m:=1) (nw:=.bool wh::cs) ho (by simp only [*,↓ZD,ZW,RO,simprocAttr]) ?_ (by simp [hc.1]) hal (by simp) (by omega) ?_
      ·exact rows1 hFz (by simp [hc.1])
      intro bk capn sp2 hs hcap hcm hFn h2
      simp only [Nb_cons,Nb_app,Nb_nil] at h2
      simp only [*,↓ZD,ZW,RO,simprocAttr]
      subst hY
      exact ⟨.slice (some ⟨bk,0,none⟩) (gs.length+1) capn,gs++[.bool wh::cs],[(bk,.cells (gs.flatten++.bool wh::cs++sp2).toArray 78 (0,0))],Hx,OwnS.mk sp2 hFn (by simp) (by simp) (by simp only [List.flatten_append,List.length_append,f13,List.flatten_cons,List.flatten_nil,List.append_nil,List.length_cons,List.length_nil,hc.1];omega) (by simpa using hs) (by simpa using hcap) hcm,(hr.mono fun _ _=>CondR.mono le_up).snoc ⟨cs,rfl,hr2⟩,by simp only [*,↓ZD,ZW,RO,simprocAttr],by simp only [*,↓ZD,ZW,RO,simprocAttr],by simp only [*,↓ZD,ZW,RO,simprocAttr],by simp only [*,↓ZD,ZW,RO,simprocAttr],by simp only [*,↓ZD,ZW,RO,simprocAttr],hw2,by simp +contextual⟩
     ·rw [if_neg (by simpa using h)] at hY
      refine NewB.n ?_
      intro bz hz hFz
      simp only [Nb_cons,Nb_app,Nb_nil] at hz
      simp only [*,↓ZD,ZW,RO,simprocAttr]
      refine EfL.more (m:=1) (nw:=.bool wh::cs) ho (by simp only [*,↓ZD,ZW,RO,simprocAttr]) ?_ (by simp [hc.1]) hal (by simp) (by omega) ?_
      ·exact rows1 hFz (by simp [hc.1])
      intro bk capn sp2 hs hcap hcm hFn h2
      simp only [Nb_cons,Nb_app,Nb_nil] at h2
      simp only [*,↓ZD,ZW,RO,simprocAttr]
      subst hY
      exact ⟨.slice (some ⟨bk,0,none⟩) (gs.length+1) capn,gs++[.bool wh::cs],[(bk,.cells (gs.flatten++.bool wh::cs++sp2).toArray 78 (0,0))],Hx,OwnS.mk sp2 hFn (by simp) (by simp) (by simp only [List.flatten_append,List.length_append,f13,List.flatten_cons,List.flatten_nil,List.append_nil,List.length_cons,List.length_nil,hc.1];omega) (by simpa using hs) (by simpa using hcap) hcm,(hr.mono fun _ _=>CondR.mono le_up).snoc ⟨cs,rfl,hr2⟩,by simp only [*,↓ZD,ZW,RO,simprocAttr],by simp only [*,↓ZD,ZW,RO,simprocAttr],by simp only [*,↓ZD,ZW,RO,simprocAttr],by simp only [*,↓ZD,ZW,RO,simprocAttr],by simp only [*,↓ZD,ZW,RO,simprocAttr],hw2,by simp +contextual⟩
 ·have hd:(s1.e != 0)=true:=by simpa using he
  rw [if_pos (by simpa using he)] at hY
  subst hY
  simp only [*,↓ZD,ZW,RO,simprocAttr]
  exact ⟨_,gs,Hk,[],ho,hr.mono fun _ _=>CondR.mono le_up,n1,n2,trivial,trivial,Dj_z.mpr trivial,Wk.nil,by simp⟩
def Go0 (ws:Ws) (s t:St):Prop:=(0≤s.p→0≤t.p)∧(t.e=0→s.e=0∧s.p≤t.p∧(InS ws s→InS ws t))
section
variable {ws:Ws} (hE:WsEnd ws)
theorem Go0.refl {s:St}:Go0 ws s s:=⟨id,fun h=>⟨h,Int.le_refl _,id⟩⟩
theorem Go0.trans {s t u:St} (h1:Go0 ws s t) (h2:Go0 ws t u):Go0 ws s u:=
 ⟨fun h=>h2.1 (h1.1 h),fun h=>by
  obtain ⟨a,b,c⟩:=h2.2 h
  obtain ⟨a',b',c'⟩:=h1.2 a
  exact ⟨a',Int.le_trans b' b,fun x=>c (c' x)⟩⟩
theorem Go0.fail {s:St} {e:Int} (he:e≠0):Go0 ws s (failS ws s e):=⟨failS_p,fun h=>absurd h (failS_e he)⟩
theorem failA_e {s:St} {e a:Int} (he:e≠0):(failA s e a).e≠0:=by
 unfold failA
 split
 ·exact he
 ·assumption
theorem Go0.failA {s:St} {e a:Int} (he:e≠0):Go0 ws s (failA s e a):=⟨fun h=>by unfold Go.Proofs.YtoelfmmfjebabaaGreatDoor.failA;split <;> exact h,fun h=>absurd h (failA_e he)⟩
theorem Go0.of {s t:St} {k:Int} (hp:0≤s.p→0≤t.p) (hf:Fwd k s t) (hk:0≤k) (hi:Inn ws s t):Go0 ws s t:=
 ⟨hp,fun h=>⟨(hf h).1,by have:=(hf h).2.1;omega,(hi h).2⟩⟩
theorem read_ge {i:Int} (h:(readS ws i).2.2.1=0):i≤(readS ws i).2.1:=by
 obtain ⟨n,hn⟩:=runG_ex ws .expr (st0 i)
 unfold readS at h ⊢
 generalize runG ws .expr (st0 i)=y at *
 by_cases he:y.2.e=0
 ·rw [if_pos he]
  have:=(G_goes ws n _ _ _ hn he).2.1
  simp only [st0] at this
  show i≤y.2.p
  omega
 ·rw [if_neg he] at h;exact absurd h he
theorem condP_conds {x:Pol} {wh:Bool} {s:St}:(condP ws x wh s).1.conds.length≤x.conds.length+1∧(condP ws x wh s).1.a=x.a:=by
 unfold condP
 dsimp only
 split
 ·exact ⟨by simp,rfl⟩
 split
 ·exact ⟨by simp,rfl⟩
 ·exact ⟨by simp,rfl⟩
include hE
theorem Go0.adv {s:St} (h:wk ws s≠0):Go0 ws s (adv s):=.of (fun h=>by show 0≤s.p+1;omega) Fwd.adv (by decide) (.adv hE h)
theorem Go0.is {s:St} {t:Str} (h:isS ws s t=true):Go0 ws s (Go.Proofs.YtoelfmmfjebabaaGreatDoor.adv s):=.adv hE (is_wk hE h)
theorem Go0.must {s:St} {t:Str}:Go0 ws s (mustS ws s t):=.of mustS_p Fwd.must (by decide) (.must hE)
theorem Go0.take {s:St} {k:Int} (hk:k≠0):Go0 ws s (takeS ws s k).2:=.of takeS_p Fwd.take (by decide) (.take hE hk)
theorem Go0.path {s:St}:Go0 ws s (pathS ws s).2:=.of pathS_p Fwd.path (by decide) (.path hE)
theorem Go0.uid {s:St}:Go0 ws s (uidP ws s).2:=by
 refine .of uidP_p Fwd.uidP (by decide) ?_
 unfold uidP
 split
 ·rename_i he
  split
  ·rename_i h0
   intro _
   refine ⟨he,fun hi=>?_⟩
   unfold uidR at h0 ⊢
   by_cases h:(uidS ws (st0 s.p)).2.e=0
   ·rw [if_pos h]
    exact (Inn.uid hE h).2 hi
   ·rw [if_neg h] at h0;exact absurd h0 h
  ·rename_i h0;intro h;exact absurd h h0
 ·exact .refl
theorem Go0.place {s:St} {x:Scp} {nm:Str}:Go0 ws s (placeP ws s x nm).2:=by
 unfold placeP
 split
 ·rename_i h
  dsimp only
  split
  ·exact .adv hE (by have:=h.2;omega)
  ·exact ⟨fun hp=>by show 0≤(failS ws s 32).p+1;have:=failS_p (ws:=ws) (e:=32) hp;omega,fun h=>absurd h (failS_e (by decide))⟩
 ·exact .uid hE
theorem Go0.scope {s:St} {nm:Str}:Go0 ws s (scopeP ws s nm).2:=by
 unfold scopeP
 dsimp only
 refine (Go0.must hE (t:=nm)).trans ?_
 split
 ·rename_i h;exact (Go0.is hE h).trans (.place hE)
 split
 ·rename_i h;exact (Go0.is hE h).trans (.place hE)
 split
 ·rename_i h
  split
  ·rename_i h2;exact (Go0.is hE h).trans ((Go0.path hE).trans ((Go0.is hE h2).trans (.place hE)))
  ·exact (Go0.is hE h).trans (.path hE)
 ·exact .refl
theorem Go0.uids:∀ {n:Nat} {s:St} {us:List (Str×Str)},Go0 ws s (uidsF ws n s us).2
 | 0,s,us=>.refl
 | n+1,s,us=>by
  rw [uidsF]
  split
  ·rename_i h;exact (Go0.uid hE).trans ((Go0.is hE h).trans Go0.uids)
  ·exact .uid hE
theorem Go0.action {s:St}:Go0 ws s (actionP ws s).2:=by
 unfold actionP actUid
 dsimp only
 refine (Go0.must hE (t:=actN)).trans ?_
 split
 ·rename_i h;exact (Go0.is hE h).trans (.uid hE)
 split
 ·exact .refl
 rename_i h
 have h:isS ws (mustS ws s actN) [105,110]=true:=by simpa using h
 refine (Go0.is hE h).trans ?_
 split
 ·exact .uid hE
 rename_i h
 have h:isS ws (Go.Proofs.YtoelfmmfjebabaaGreatDoor.adv (mustS ws s actN)) [91]=true:=by simpa using h
 refine (Go0.is hE h).trans ?_
 split
 ·rename_i h;exact .is hE h
 ·exact (Go0.uids hE).trans (.must hE)
theorem Go0.cond {x:Pol} {wh:Bool} {s:St}:Go0 ws s (condP ws x wh s).2:=by
 unfold condP
 dsimp only
 refine (Go0.must hE (t:=[123])).trans ?_
 generalize mustS ws s [123]=s1
 split
 ·exact .refl
 rename_i he
 split
 ·rename_i h0;exact ⟨id,fun h=>absurd h h0⟩
 rename_i h0
 have h0:(readS ws s1.p).2.2.1=0:=by simpa using h0
 have hg:=read_ge h0
 have g1:Go0 ws s1 ⟨(readS ws s1.p).2.1,s1.deep,s1.e,s1.bad⟩:=⟨fun h=>Int.le_trans h hg,fun h=>⟨h,hg,fun hi=>by
  obtain ⟨a,b,-⟩:=read_in hE (i:=s1.p) hi h0
  exact ⟨a,b⟩⟩⟩
 refine g1.trans ((Go0.must hE (t:=[125])).trans ?_)
 generalize mustS ws ⟨(readS ws s1.p).2.1,s1.deep,s1.e,s1.bad⟩ [125]=s2
 have g2:Go0 ws s2 (if 50 < depX (readS ws s1.p).1 then Go.Proofs.YtoelfmmfjebabaaGreatDoor.failA s2 11 (wdAt ws s1.p).2 else s2):=by
  split
  ·exact Go0.failA (e:=11) (by decide)
  ·exact .refl
 refine g2.trans ?_
 generalize (if 50 < depX (readS ws s1.p).1 then Go.Proofs.YtoelfmmfjebabaaGreatDoor.failA s2 11 (wdAt ws s1.p).2 else s2)=s3
 split
 ·exact Go0.failA (e:=32) (by decide)
 ·exact .refl
theorem Go0.conds:∀ {n:Nat} {x:Pol} {s:St},Go0 ws s (condsF ws n x s).2
 | 0,x,s=>.refl
 | n+1,x,s=>by
  rw [condsF]
  split
  ·exact .refl
  split
  ·rename_i h;exact (Go0.is hE h).trans ((Go0.cond hE).trans Go0.conds)
  split
  ·rename_i h;exact (Go0.is hE h).trans ((Go0.cond hE).trans Go0.conds)
  ·exact .must hE
theorem Go0.id {n:Int} {s:St}:Go0 ws s (idP ws n s).2:=by
 unfold idP
 split
 ·rename_i h
  exact (Go0.is hE h).trans ((Go0.must hE).trans ((Go0.must hE).trans ((Go0.take hE (by decide)).trans (.must hE))))
 ·exact .refl
def permP (ws:Ws) (s:St):St:=if isS ws s permT then Go.Proofs.YtoelfmmfjebabaaGreatDoor.adv s else mustS ws s forbT
theorem perm_go {s:St}:Go0 ws s (permP ws s)∧((permP ws s).e=0→s.p+1≤(permP ws s).p):=by
 unfold permP
 split
 ·rename_i h;exact ⟨.is hE h,fun _=>Int.le_refl _⟩
 ·exact ⟨.must hE,fun h=>(Fwd.must h).2.1⟩
theorem head_go {n:Int} {s:St}:Go0 ws s (headP ws n s).2∧((headP ws n s).2.e=0→s.p+1≤(headP ws n s).2.p):=by
 have g1:Go0 ws s (idP ws n s).2:=Go0.id hE
 obtain ⟨g2,g3⟩:=perm_go hE (s:=(idP ws n s).2)
 unfold headP
 dsimp only
 rw [show (if isS ws (idP ws n s).2 permT then Go.Proofs.YtoelfmmfjebabaaGreatDoor.adv (idP ws n s).2 else mustS ws (idP ws n s).2 forbT)=permP ws (idP ws n s).2 from rfl]
 generalize permP ws (idP ws n s).2=u at *
 have g4:Go0 ws u (mustS ws (scopeP ws (mustS ws (actionP ws (mustS ws (scopeP ws (mustS ws u [40]) prN).2 [44])).2 [44]) reN).2 [41]):=
  (Go0.must hE).trans ((Go0.scope hE).trans ((Go0.must hE).trans ((Go0.action hE).trans ((Go0.must hE).trans ((Go0.scope hE).trans (.must hE))))))
 refine ⟨g1.trans (g2.trans g4),fun h=>?_⟩
 obtain ⟨a,b,-⟩:=g4.2 h
 have:=g3 a
 have:=(g1.2 (g2.2 a).1).2.1
 omega
theorem policy_go {n:Int} {s:St}:Go0 ws s (policyP ws n s).2∧((policyP ws n s).2.e=0→s.p+1≤(policyP ws n s).2.p):=by
 obtain ⟨g1,g2⟩:=head_go hE (n:=n) (s:=s)
 unfold policyP
 have g3:Go0 ws (headP ws n s).2 (condsF ws (ws.length+1) (headP ws n s).1 (headP ws n s).2).2:=Go0.conds hE
 refine ⟨g1.trans g3,fun h=>?_⟩
 obtain ⟨a,b,-⟩:=g3.2 h
 have:=g2 a
 omega
end
def PolQ (x:Pol) (F:Base) (r:Value):Prop:=∃ cs,r=.agg cs.toArray∧RepPol F cs x
theorem PolQ.mono (x:Pol) (F F':Base) (r:Value) (hF:∀ b o,F b=some o→F' b=some o) (h:PolQ x F r):PolQ x F' r:=by
 obtain ⟨cs,h1,h2⟩:=h;exact ⟨cs,h1,h2.mono hF⟩
theorem shows_len {a:Int} (h:I64 a):(shows a).length≤21:=by
 unfold I64 at h
 unfold shows
 split
 ·have:=digs_len' (n:=(-a).toNat) (by omega)
  rw [List.length_cons];omega
 ·have:=digs_len' (n:=a.toNat) (by omega)
  omega
theorem condsF_err {ws:Ws} {n:Nat} {x:Pol} {s:St} (h:s.e≠0):condsF ws n x s=(x,s):=by
 cases n with
 | zero=>rfl
 | succ n=>rw [condsF,if_pos h]
theorem CallE.cond {X:List Nat} {F:Base} {w0:World} {ws:Ws} {l:Value} {b bp b4:Nat} {o4:Obj} {s:St} {x:Pol} {va vc:Value} {gs:List (List Value)} {Hk G:Hp} {K:Value→Hp→Prop} (wh:Bool) (hMx:HasMx F) (hws:WsOk ws) (hW:HasW F ws l) (hE:EndW ws) (hWE:WsEnd ws)
  (hp:0≤s.p) (hI:s.e=0→InS ws s) (ho:OwnS F 13 78 gs.flatten gs.length vc Hk) (hr:All2 (CondR (rdObj F G)) gs x.conds) (hcl:x.conds.length≤70000) (hva:oneCell va=true) (f1:F b=none) (f2:F bp=none) (f3:F b4=none)
  (nn:b≠bp∧b≠b4∧bp≠b4∧Nb b Hk∧Nb bp Hk∧Nb b4 Hk∧Nb b G∧Nb bp G∧Nb b4 G∧Dj Hk G) (hw:Wk G)
  (hk:∀ z vc' gs' Hk' G',condP ws x wh s=z→z.1.conds.length≤x.conds.length+1→z.1.a=x.a→Go0 ws s z.2→OwnS F 13 78 gs'.flatten gs'.length vc' Hk'→All2 (CondR (rdObj F G')) gs' z.1.conds→(∀ b o,rdObj F G b=some o→rdObj F G' b=some o)→Nb b Hk'∧Nb bp Hk'∧Nb b4 Hk'∧Nb b G'∧Nb bp G'∧Nb b4 G'∧Dj Hk' G'→Wk G' →
   K (.tuple #[]) ((b,RdP l z.2)::(bp,PolO z.1 va vc')::(b4,o4)::(Hk'++G'))) :
  @CallE Tryz.prog X F w0 44 #[.pointer (some ⟨b,0,none⟩),.pointer (some ⟨bp,0,none⟩),.bool wh] ((b,RdP l s)::(bp,PolO x va vc)::(b4,o4)::(Hk++G)) ⟨K⟩:=by
 obtain ⟨q1,q2,q3,q4,q5,q6,q7,q8,q9,q10⟩:=nn
 have nf:=ho.noF
 have hoG:OwnS (rdObj F G) 13 78 gs.flatten gs.length vc Hk:=ho.mono fun e he=>by
  rw [rdObj_own (Nf.iff.1 nf e he)]
  exact lk_none fun e' he'=>(Dj.iff.1 q10 e he e' he')
 refine CallG.shr (K:=fun v H'=>v=.tuple #[]∧∃ vc' gs' Hk' Gx,OwnS F 13 78 gs'.flatten gs'.length vc' Hk'∧All2 (CondR (rdObj F (G++Gx))) gs' (condP ws x wh s).1.conds∧Nb b Hk'∧Nb bp Hk'∧Nb b Gx∧Nb bp Gx∧Dj Hk' Gx∧Wk Gx∧Dj ((b4,o4)::G) (Hk'++Gx)∧H'=((b4,o4)::G)++((b,RdP l (condP ws x wh s).2)::(bp,PolO (condP ws x wh s).1 va vc')::(Hk'++Gx)))
  (CallG.frame (F1:=rdObj F G) (H0:=(b,RdP l s)::(bp,PolO x va vc)::Hk) (Hr:=(b4,o4)::G) (pcond_does (rdObj F G) (hMx.mono le_up) hws (hW.mono le_up) hE hWE q1 (rdObj_nb f1 q7) (rdObj_nb f2 q8) hp hI x va wh hoG hr q4 q5 hcl hva) ?_ ?_ ?_ ?_ ?_) ?_
 ·exact fun _ _ h=>rdObj_tl q9.all h
 ·intro e he
  simp only [List.mem_cons,List.mem_append] at he ⊢
  rcases he with rfl | rfl | he <;> simp [*]
 ·intro e he
  simp only [List.mem_cons,List.mem_append] at he ⊢
  rcases he with rfl | he <;> simp [*]
 ·intro e' he' e he
  simp only [List.mem_cons] at he he'
  rcases he' with rfl | he' <;> rcases he with rfl | rfl | he
  ·exact q2
  ·exact q3
  ·exact q6.all e he
  ·exact (q7.all e' he').symm
  ·exact (q8.all e' he').symm
  ·exact (Dj.iff.1 q10 e he e' he').symm
 ·rintro v H' ⟨rfl,vc',gs',Hk',Gx,a1,a2,a3,a4,a5,a6,a7,a8,rfl⟩ hn hd hu
  refine ⟨rfl,vc',gs',Hk',Gx,a1.mono fun e he=>?_,a2.mono fun _ _=>CondR.mono fun _ _=>rdObj_app,a3,a4,a5,a6,a7,a8,?_,rfl⟩
  ·exact hn e (List.mem_cons_of_mem _ (List.mem_cons_of_mem _ (List.mem_append_left _ he)))
  ·exact Dj.iff.2 fun e he e' he'=>hd e he e' (List.mem_cons_of_mem _ (List.mem_cons_of_mem _ he'))
 ·rintro v H' ⟨rfl,vc',gs',Hk',Gx,a1,a2,a3,a4,a5,a6,a7,a8,a9,rfl⟩
  simp only [Dj_cons,Nb_app,Dj_apr] at a9
  obtain ⟨⟨c1,c3⟩,c2,c4⟩:=a9
  refine ⟨(b,RdP l (condP ws x wh s).2)::(bp,PolO (condP ws x wh s).1 va vc')::(b4,o4)::(Hk'++(G++Gx)),?_,hk _ vc' gs' Hk' (G++Gx) rfl condP_conds.1 condP_conds.2 (Go0.cond hWE) a1 a2 (fun _ _=>rdObj_app1) ⟨a3,a4,c1,by rw [Nb_app];exact ⟨q7,a5⟩,by rw [Nb_app];exact ⟨q8,a6⟩,by rw [Nb_app];exact ⟨q9,c2⟩,by rw [Dj_apr];exact ⟨c3.symm,a7⟩⟩ (hw.app a8 fun e he e' he'=>Dj.iff.1 c4 e he e' he')⟩
  intro e he
  simp only [List.mem_append,List.mem_cons] at he ⊢
  rcases he with rfl | rfl | rfl | h | h | h <;> simp [*]
theorem pol_fin {F:Base} {x:Pol} {va vc:Value} {gs:List (List Value)} {Hk G:Hp} (ho:OwnS F 13 78 gs.flatten gs.length vc Hk) (hr:All2 (CondR (rdObj F G)) gs x.conds) (hu:SlU (rdObj F G) va x.a.list) (hd:Dj Hk G) (hw:Wk G) :
  PolQ x (rdObj F (Hk++G)) (.agg (polC x v0 va v0 vc).toArray)∧Wk (Hk++G):=by
 have up:∀ b o,rdObj F G b=some o→rdObj F (Hk++G) b=some o:=fun _ _ h=>rdObj_r (Dj.iff.1 hd) h
 have w:=(OwnS.sub ho).app hw (Dj.iff.1 hd)
 exact ⟨⟨_,rfl,va,vc,rfl,hu.mono up,gs,SlN.own ho (All2.all (fun _ _ h=>CondR.len h) hr) (fun e he=>w e (List.mem_append_left _ he)),hr.mono fun _ _=>CondR.mono up⟩,w⟩
structure PcS where
 n:Nat
 x:Pol
 s:St
 vc:Value
 gs:List (List Value)
 Hk:Hp
 G:Hp
structure PcOk (F:Base) (ws:Ws) (s:St) (b b4 b5:Nat) (va:Value) (Y:Pol×St) (y:PcS):Prop where
 Y:condsF ws y.n y.x y.s=Y
 n:y.s.e=0→(ws.length:Int) - y.s.p < y.n
 g:Go0 ws s y.s
 o:OwnS F 13 78 y.gs.flatten y.gs.length y.vc y.Hk
 r:All2 (CondR (rdObj F y.G)) y.gs y.x.conds
 u:SlU (rdObj F y.G) va y.x.a.list
 c:y.s.e=0→y.x.conds.length≤y.s.p.toNat
 nn:Nb b y.Hk∧Nb b5 y.Hk∧Nb b4 y.Hk∧Nb b y.G∧Nb b5 y.G∧Nb b4 y.G∧Dj y.Hk y.G
 w:Wk y.G
abbrev zP:Obj:=.cells #[.string (bs []),.bool false,.int .i64 0,.string (bs []),.string (bs []),.string (bs []),.bool false,.slice none 0 0,.int .i64 0,.string (bs []),.string (bs []),.string (bs []),.bool false,.slice none 0 0,.int .i64 0,.string (bs []),.string (bs []),.string (bs []),.bool false,.slice none 0 0,.slice none 0 0] 51 (0,0)
def bodyP (ws:Ws) (id:Str) (pm:Bool) (s:St):Pol×St:=
 let p:=scopeP ws (mustS ws s [40]) prN
 let a:=actionP ws (mustS ws p.2 [44])
 let r:=scopeP ws (mustS ws a.2 [44]) reN
 condsF ws (ws.length+1) ⟨id,pm,p.1,a.1,r.1,[]⟩ (mustS ws r.2 [41])
def permB (ws:Ws) (id:Str) (s:St):Pol×St:=if isS ws s permT then bodyP ws id true (adv s) else bodyP ws id false (mustS ws s forbT)
def quotP (ws:Ws) (s:St):Str×St:=takeS ws (mustS ws (mustS ws (adv s) [105,100]) [40]) 3
theorem policyP_eq (ws:Ws) (n:Int) (s:St):policyP ws n s=if isS ws s [64] then permB ws (quotP ws s).1 (mustS ws (quotP ws s).2 [41]) else permB ws ([112,111,108,105,99,121]++shows n) s:=by
 unfold policyP headP idP permB bodyP quotP
 by_cases h:isS ws s [64]=true
 ·simp only [if_pos h]
  split <;> rename_i h2 <;> simp only [h2] <;> rfl
 ·simp only [if_neg h]
  split <;> rename_i h2 <;> simp only [h2] <;> rfl
set_option maxHeartbeats 4000000 in
theorem ppolicy_does (F:Base) (hMx:HasMx F) {ws:Ws} (hws:WsOk ws) {l:Value} (hW:HasW F ws l) (hE:EndW ws) (hWE:WsEnd ws) {b:Nat} (hFb:F b=none) {s:St} (hp:0≤s.p) (hI:s.e=0→InS ws s) (n:Int) (hn:I64 n) :
  Does Tryz.prog F 20 #[.pointer (some ⟨b,0,none⟩),.int .i64 n] [(b,RdP l s)] (MkP F l b (policyP ws n s).2 (PolQ (policyP ws n s).1)):=by
 obtain ⟨bw,cap,sp,T,fz,rfl,hFw,hc,hm,hne⟩:=id hW
 have g:Go0 ws s s:=.refl
 generalize hY:policyP ws n s=Y
 rw [policyP_eq] at hY
 refine Does.mkp ?_
 refine does_of_svc (args:=[.pointer (some ⟨b,0,none⟩),.int .i64 n]) mixed Tryz.func20 low20 (Nat.le_of_ble_eq_true rfl) (fun w0 hw0=>?_)
 clear hFw hc hm hne
 simp only [*,fu20,↓ZD,ZW,RO,simprocAttr]
 refine NewB.n ?_
 rintro b4 ⟨_,_,_⟩ _
 simp only [*,↓ZD,ZW,RO,simprocAttr]
 refine CallE.pure (show_pure F n hn) ?_
 simp only [*,↓ZD,ZW,RO,simprocAttr]
 refine conj.of (by have:=shows_len hn;omega) ?_
 simp only [*,↓ZD,ZW,RO,simprocAttr]
 refine NewB.n ?_
 rintro b5 ⟨_,_,_,_,_⟩ _
 simp only [*,↓ZD,ZW,RO,simprocAttr]
 refine CallE.rpq (pskip_q (p:=s) hW hE hp _) rfl (by simp only [*,↓ZD,ZW,RO,simprocAttr]) ?_
 cases i1:isS ws s [64]
 case' true=>
  rw [i1,if_pos rfl] at hY
  unfold quotP at hY
  simp only [if_true]
  replace g:=g.trans (Go0.is hWE i1)
  generalize adv s=s1 at *
  have hp0:=g.1 hp
  clear i1
  simp only [*,↓ZD,ZW,RO,simprocAttr]
  refine NewB.n ?_
  rintro bz hz hFz
  simp only [Nb_cons,Nb_app,Nb_nil] at hz
  simp only [*,↓ZD,ZW,RO,simprocAttr]
  refine CallE.must2 (p:=s1) hW hE hp0 (by decide) (by decide) rfl (by simp only [*,↓ZD,ZW,RO,simprocAttr]) hFz (by simp only [*,↓ZD,ZW,RO,simprocAttr]) ?_
  clear hz hFz
  replace g:=g.trans ((Go0.must hWE (s:=s1) (t:=[105,100])).trans (Go0.must hWE (t:=[40])))
  generalize mustS ws (mustS ws s1 [105,100]) [40]=s2 at *
  have hp0:=g.1 hp
  simp only [*,↓ZD,ZW,RO,simprocAttr]
  refine CallE.rpq (pquoted_q (p:=s2) hW hE hp0) rfl (by simp only [*,↓ZD,ZW,RO,simprocAttr]) ?_
  replace g:=g.trans (Go0.take hWE (s:=s2) (k:=3) (by decide))
  generalize takeS ws s2 3=tt at *
  obtain ⟨tt,s3⟩:=tt
  dsimp only at g hY ⊢
  replace hp0:=g.1 hp
  simp only [*,↓ZD,ZW,RO,simprocAttr]
  refine NewB.n ?_
  rintro bz hz hFz
  simp only [Nb_cons,Nb_app,Nb_nil] at hz
  simp only [*,↓ZD,ZW,RO,simprocAttr]
  refine CallE.must1 (p:=s3) hW hE hp0 (by decide) rfl (by simp only [*,↓ZD,ZW,RO,simprocAttr]) hFz (by simp only [*,↓ZD,ZW,RO,simprocAttr]) ?_
  clear hz hFz
  replace g:=g.trans (Go0.must hWE (s:=s3) (t:=[41]))
  generalize mustS ws s3 [41]=s1 at *
  have hp0:=g.1 hp
 case' false=>
  rw [i1,if_neg (by simp)] at hY
  simp only [if_false,Bool.false_eq_true]
  simp only [List.cons_append,List.nil_append] at hY
  generalize 112::111::108::105::99::121::shows n=tt at *
  clear i1 g
  obtain ⟨s1,hs1⟩:∃ s1,s1=s:=⟨s,rfl⟩
  have g:Go0 ws s s1:=hs1 ▸ .refl
  rw [← hs1] at hY ⊢
  clear hs1
  have hp0:=g.1 hp
 all_goals
  simp only [*,↓ZD,ZW,RO,simprocAttr]
  refine CallE.rpq (pskip_q (p:=s1) hW hE hp0 _) rfl (by simp only [*,↓ZD,ZW,RO,simprocAttr]) ?_
  unfold permB permT forbT at hY
  cases i2:isS ws s1 [112,101,114,109,105,116]
  case' true=>
   rw [i2,if_pos rfl] at hY
   simp only [if_true]
   replace g:=g.trans (Go0.is hWE i2)
   generalize adv s1=s2 at *
   have hp0:=g.1 hp
  case' false=>
   rw [i2,if_neg (by simp)] at hY
   simp only [if_false,Bool.false_eq_true]
   simp only [*,↓ZD,ZW,RO,simprocAttr]
   refine NewB.n ?_
   rintro bz hz hFz
   simp only [Nb_cons,Nb_app,Nb_nil] at hz
   simp only [*,↓ZD,ZW,RO,simprocAttr]
   refine CallE.must1 (p:=s1) hW hE hp0 (by decide) rfl (by simp only [*,↓ZD,ZW,RO,simprocAttr]) hFz (by simp only [*,↓ZD,ZW,RO,simprocAttr]) ?_
   clear hz hFz
   replace g:=g.trans (Go0.must hWE (s:=s1) (t:=[102,111,114,98,105,100]))
   generalize mustS ws s1 [102,111,114,98,105,100]=s2 at *
   have hp0:=g.1 hp
  all_goals
   clear i2
   simp only [*,↓ZD,ZW,RO,simprocAttr]
   unfold bodyP at hY
   dsimp only at hY
   refine NewB.n ?_
   rintro bz hz hFz
   simp only [Nb_cons,Nb_app,Nb_nil] at hz
   simp only [*,↓ZD,ZW,RO,simprocAttr]
   refine CallE.must1 (p:=s2) hW hE hp0 (by decide) rfl (by simp only [*,↓ZD,ZW,RO,simprocAttr]) hFz (by simp only [*,↓ZD,ZW,RO,simprocAttr]) ?_
   clear hz hFz
   replace g:=g.trans (Go0.must hWE (s:=s2) (t:=[40]))
   generalize mustS ws s2 [40]=s3 at *
   have hp0:=g.1 hp
   simp only [*,↓ZD,ZW,RO,simprocAttr]
   refine CallE.rpq (pscope_q (p:=s3) hws hW hE hp0 _ (by decide)) rfl (by simp only [*,↓ZD,ZW,RO,simprocAttr]) ?_
   replace g:=g.trans (Go0.scope hWE (s:=s3) (nm:=prN))
   unfold prN at g hY
   generalize scopeP ws s3 [112,114,105,110,99,105,112,97,108]=pp at *
   obtain ⟨pp,s4⟩:=pp
   dsimp only at g hY ⊢
   replace hp0:=g.1 hp
   unfold scV
   simp only [*,↓ZD,ZW,RO,simprocAttr]
   refine NewB.n ?_
   rintro bz hz hFz
   simp only [Nb_cons,Nb_app,Nb_nil] at hz
   simp only [*,↓ZD,ZW,RO,simprocAttr]
   refine CallE.must1 (p:=s4) hW hE hp0 (by decide) rfl (by simp only [*,↓ZD,ZW,RO,simprocAttr]) hFz (by simp only [*,↓ZD,ZW,RO,simprocAttr]) ?_
   clear hz hFz
   replace g:=g.trans (Go0.must hWE (s:=s4) (t:=[44]))
   generalize mustS ws s4 [44]=s5 at *
   have hp0:=g.1 hp
   simp only [*,↓ZD,ZW,RO,simprocAttr]
   refine CallE.mkp (p:=s5) (s':=(actionP ws s5).2) (Q:=ActQ (actionP ws s5).1) (fun F' k1 _ k3=>paction_does F' hws (hW.mono k1) hE k3 hp0) (ActQ.mono _) rfl (by simp only [*,↓ZD,ZW,RO,simprocAttr]) ?_
   replace g:=g.trans (Go0.action hWE (s:=s5))
   generalize actionP ws s5=aa at *
   obtain ⟨aa,s6⟩:=aa
   dsimp only at g hY ⊢
   replace hp0:=g.1 hp
   rintro r G ⟨va,rfl,hu⟩ ⟨nbG,djG,-,wkG⟩
   simp only [Dj_cons,Dj_nil] at djG
   have hva:oneCell va=true:=by obtain ⟨_,_,rfl,_⟩:=hu;rfl
   unfold scV
   simp only [*,↓ZD,ZW,RO,simprocAttr]
   refine NewB.n ?_
   rintro bz hz hFz
   simp only [Nb_cons,Nb_app,Nb_nil] at hz
   simp only [*,↓ZD,ZW,RO,simprocAttr]
   refine CallE.must1 (p:=s6) hW hE hp0 (by decide) rfl (by simp only [*,↓ZD,ZW,RO,simprocAttr]) hFz (by simp only [*,↓ZD,ZW,RO,simprocAttr]) ?_
   clear hz hFz
   replace g:=g.trans (Go0.must hWE (s:=s6) (t:=[44]))
   generalize mustS ws s6 [44]=s7 at *
   have hp0:=g.1 hp
   simp only [*,↓ZD,ZW,RO,simprocAttr]
   refine CallE.rpq (pscope_q (p:=s7) hws hW hE hp0 _ (by decide)) rfl (by simp only [*,↓ZD,ZW,RO,simprocAttr]) ?_
   replace g:=g.trans (Go0.scope hWE (s:=s7) (nm:=reN))
   unfold reN at g hY
   generalize scopeP ws s7 [114,101,115,111,117,114,99,101]=rr at *
   obtain ⟨rr,s8⟩:=rr
   dsimp only at g hY ⊢
   replace hp0:=g.1 hp
   unfold scV
   simp only [*,↓ZD,ZW,RO,simprocAttr]
   refine NewB.n ?_
   rintro bz hz hFz
   simp only [Nb_cons,Nb_app,Nb_nil] at hz
   simp only [*,↓ZD,ZW,RO,simprocAttr]
   refine CallE.must1 (p:=s8) hW hE hp0 (by decide) rfl (by simp only [*,↓ZD,ZW,RO,simprocAttr]) hFz (by simp only [*,↓ZD,ZW,RO,simprocAttr]) ?_
   clear hz hFz
   replace g:=g.trans (Go0.must hWE (s:=s8) (t:=[41]))
   generalize mustS ws s8 [41]=s9 at *
   have hp0:=g.1 hp
   simp only [*,↓ZD,ZW,RO,simprocAttr]
   refine LoopL.inv (PcOk F ws s b b4 b5 va Y) (fun y=>[(0,some (.pointer (some ⟨b,0,none⟩))),(4,some (.pointer (some ⟨b4,0,none⟩))),(5,some (.pointer (some ⟨b5,0,none⟩)))])
    (fun y=>(b,RdP (.slice (some ⟨bw,0,none⟩) ws.length cap) y.s)::(b5,PolO y.x va y.vc)::(b4,zP)::(y.Hk++y.G)) (fun y=>y.n) ⟨ws.length+1,_,s9,.slice none 0 0,[],[],G⟩ ⟨hY,fun _=>by simp only;omega,g,.nil,trivial,hu,fun _=>Nat.zero_le _,by simp only [*,↓ZD,ZW,RO,simprocAttr],wkG⟩ (by simp only [*,↓ZD,ZW,RO,simprocAttr]) (by simp only [*,↓ZD,ZW,RO,simprocAttr]) ?_
   rintro ⟨m,x1,s0,vc,gs,Hk,G1⟩ ⟨y1,y2,y3,y4,y5,y6,y7,y8,y9⟩
   clear hY hu nbG djG wkG hp0 g
   dsimp only at y1 y2 y3 y4 y5 y6 y7 y8 y9 ⊢
   have hp0:=y3.1 hp
   have y10:=y4.noF
   have y11:=OwnS.sub y4
   by_cases he:s0.e=0
   ·have hin:InS ws s0:=(y3.2 he).2.2 (hI (y3.2 he).1)
    obtain ⟨m,rfl⟩:∃ k,m=k+1:=⟨m - 1,by have:=hin.2;have:=y2 he;omega⟩
    replace y2:=y2 he
    replace y7:=y7 he
    have hd:(s0.e==0)=true:=by simpa using he
    have hcl:x1.conds.length≤70000:=by have:=hin.2;have:=hws.1;omega
    rw [condsF,if_neg (by simpa using he)] at y1
    have hvc:oneCell vc=true:=by obtain ⟨_,_,rfl,_⟩:=y4.len_le;rfl
    simp only [*,↓ZD,ZW,RO,simprocAttr]
    refine CallE.rpq (pskip_q (p:=s0) hW hE hp0 _) rfl (by simp only [*,↓ZD,ZW,RO,simprocAttr]) ?_
    unfold whenT unlT at y1
    cases i3:isS ws s0 [119,104,101,110]
    case' false=>
     rw [i3,if_neg (by simp)] at y1
     simp only [if_false,Bool.false_eq_true]
     simp only [*,↓ZD,ZW,RO,simprocAttr]
     refine CallE.rpq (pskip_q (p:=s0) hW hE hp0 _) rfl (by simp only [*,↓ZD,ZW,RO,simprocAttr]) ?_
     clear i3
     cases i3:isS ws s0 [117,110,108,101,115,115]
     case' false=>
      rw [i3,if_neg (by simp)] at y1
      simp only [if_false,Bool.false_eq_true]
      simp only [*,↓ZD,ZW,RO,simprocAttr]
      refine NewB.n ?_
      rintro bz hz hFz
      simp only [Nb_cons,Nb_app,Nb_nil] at hz
      simp only [*,↓ZD,ZW,RO,simprocAttr]
      refine CallE.must1 (p:=s0) hW hE hp0 (by decide) rfl (by simp only [*,↓ZD,ZW,RO,simprocAttr]) hFz (by simp only [*,↓ZD,ZW,RO,simprocAttr]) ?_
      clear hz hFz
      subst y1
      simp only [*,↓ZD,ZW,RO,simprocAttr]
      obtain ⟨f1,f2⟩:=pol_fin y4 y5 y6 y8.2.2.2.2.2.2 y9
      exact ⟨Hk++G1,f1,by simp only [*,↓ZD,ZW,RO,simprocAttr],f2,by simp,by simp +contextual⟩
    all_goals
     rw [i3,if_pos rfl] at y1
     simp only [if_true]
     simp only [*,↓ZD,ZW,RO,simprocAttr]
     have g2:=y3.trans (Go0.is hWE i3)
     have hp2:=g2.1 hp
     have hq:(adv s0).p=s0.p+1:=rfl
     refine CallE.cond _ hMx hws hW hE hWE hp2 (fun he=>(g2.2 he).2.2 (hI (g2.2 he).1)) y4 y5 hcl hva hFb ‹F b5=none› ‹F b4=none› (by simp only [*,↓ZD,ZW,RO,simprocAttr]) y9 ?_
     intro z vc2 gs2 Hk2 G2 hz c1 c2 g3 k1 k2 k3 k4 k5
     have y11:=k1.noF
     have y12:=OwnS.sub k1
     rw [hz] at y1
     clear hz
     simp only [*,↓ZD,ZW,RO,simprocAttr]
     refine invK.on ⟨m,z.1,z.2,vc2,gs2,Hk2,G2⟩ ⟨y1,?_,g2.trans g3,k1,k2,?_,?_,by simp only [*,↓ZD,ZW,RO,simprocAttr],k5⟩ (by show m < m+1;omega) (by simp only [*,↓ZD,ZW,RO,simprocAttr]) (by simp only [*,↓ZD,ZW,RO,simprocAttr])
     ·intro hz
      have:=(g3.2 hz).2.1
      show (ws.length:Int) - z.2.p < m
      omega
     ·show SlU _ va z.1.a.list
      rw [c2];exact y6.mono k3
     ·intro hz
      have:=(g3.2 hz).2.1
      show z.1.conds.length≤z.2.p.toNat
      have:=c1
      omega
   ·have hvc:oneCell vc=true:=by obtain ⟨_,_,rfl,_⟩:=y4.len_le;rfl
    have hd:(s0.e==0)=false:=by simpa using he
    rw [condsF_err he] at y1
    subst y1
    simp only [*,↓ZD,ZW,RO,simprocAttr]
    obtain ⟨f1,f2⟩:=pol_fin y4 y5 y6 y8.2.2.2.2.2.2 y9
    exact ⟨Hk++G1,f1,by simp only [*,↓ZD,ZW,RO,simprocAttr],f2,by simp,by simp +contextual⟩
def keysS (ks:List Str) (x:Str):List Str:=if x∈ks then ks else ks++[x]
def keysL (ids:List Str):List Str:=ids.foldl keysS []
theorem keysL_snoc (l:List Str) (x:Str):keysL (l++[x])=keysS (keysL l) x:=by unfold keysL;rw [List.foldl_append];rfl
theorem snoc_ind {α:Type} {P:List α→Prop} (h0:P []) (h1:∀ l x,P l→P (l++[x])) (l:List α):P l:=by
 have:∀ (n:Nat) (l:List α),l.length=n→P l:=by
  intro n
  induction n with
  | zero=>intro l hl;rw [List.eq_nil_of_length_eq_zero hl];exact h0
  | succ n ih=>
   intro l hl
   have hne:l≠[]:=by rintro rfl;cases hl
   rw [← List.dropLast_concat_getLast hne]
   exact h1 _ _ (ih _ (by rw [List.length_dropLast];omega))
 exact this _ l rfl
theorem keysL_mem (l:List Str):∀ y,y∈keysL l↔y∈l:=by
 induction l using snoc_ind with
 | h0=>intro y;rfl
 | h1 l x ih=>
  intro y
  rw [keysL_snoc]
  unfold keysS
  split
  ·rename_i h
   rw [ih,List.mem_append,List.mem_singleton]
   refine ⟨.inl,fun h'=>h'.elim id fun e=>by rw [e];exact (ih x).1 h⟩
  ·rw [List.mem_append,List.mem_append,ih]
theorem twiceB_snoc (x:Str):∀ l:List Str,twiceB (l++[x])=(twiceB l||decide (x∈l))
 | []=>by simp [twiceB]
 | a::l=>by
  rw [List.cons_append,twiceB,twiceB_snoc x l,twiceB]
  by_cases h:x=a
  ·subst h;simp
  ·have h':¬ a=x:=fun e=>h e.symm
   simp [h,h',Bool.or_assoc]
theorem keysL_len (l:List Str):(keysL l).length≤l.length∧(twiceB l=decide ((keysL l).length < l.length)):=by
 induction l using snoc_ind with
 | h0=>exact ⟨Nat.le_refl _,rfl⟩
 | h1 l x ih=>
  rw [keysL_snoc,twiceB_snoc,ih.2]
  unfold keysS
  by_cases h:x∈l
  ·rw [if_pos ((keysL_mem l x).2 h),List.length_append,List.length_singleton]
   refine ⟨by omega,?_⟩
   have:(keysL l).length < l.length+1:=by omega
   simp [h,this]
  ·rw [if_neg (fun h'=>h ((keysL_mem l x).1 h')),List.length_append,List.length_append,List.length_singleton]
   simp [h]
   omega
def ParsePs (F:Base) (R:List Pol×Int×Int) (r:Value) (H':Hp):Prop:=∃ v,r=.tuple #[v,.int .i64 R.2.1,.int .i64 R.2.2]∧SlP (rdObj F H') v R.1∧Wk H'
def polsR (Y:List Pol×St):List Pol×Int×Int:=if Y.2.e≠0 then ([],Y.2.e,Y.2.bad) else if twiceB (Y.1.map Pol.id) then ([],13,0) else (Y.1,0,0)
theorem polsR_err {l:List Pol} {s:St} (h:s.e≠0):polsR (l,s)=([],s.e,s.bad):=if_pos h
theorem polsR_two {l:List Pol} {s:St} (h:s.e=0) (h2:twiceB (l.map Pol.id)=true):polsR (l,s)=([],13,0):=(if_neg (by simpa using h)).trans (if_pos h2)
theorem polsR_ok {l:List Pol} {s:St} (h:s.e=0) (h2:twiceB (l.map Pol.id)=false):polsR (l,s)=(l,0,0):=(if_neg (by simpa using h)).trans (if_neg (by simp [h2]))
structure PsS where
 n:Nat
 s:St
 l:List Pol
 v:Value
 gs:List (List Value)
 Ho:Hp
 G:Hp
structure PsOk (F:Base) (ws:Ws) (lv:Value) (b bm:Nat) (Y:List Pol×St) (y:PsS):Prop where
 Y:polsF ws y.n y.l y.s=Y
 n:(ws.length:Int) - y.s.p < y.n
 e:y.s.e=0
 i:InS ws y.s
 W:HasW (rdObj F y.G) ws lv
 o:OwnS F 21 51 y.gs.flatten y.gs.length y.v y.Ho
 r:All2 (RepPol (rdObj F y.G)) y.gs y.l
 c:y.l.length≤y.s.p.toNat
 nn:Nb b y.Ho∧Nb bm y.Ho∧Nb b y.G∧Nb bm y.G∧Dj y.Ho y.G
 w:Wk y.G
theorem flat21 {F:Base} {gs:List (List Value)} {xs:List Pol} (h:All2 (RepPol F) gs xs):gs.flatten.length=gs.length * 21:=by
 have:=All2.all (P:=fun g:List Value=>g.length=21) (fun _ _ h=>RepPol.len h) h
 clear h
 induction gs with
 | nil=>rfl
 | cons x r ih=>rw [List.flatten_cons,List.length_append,this x List.mem_cons_self,ih fun c hc=>this c (List.mem_cons_of_mem _ hc),List.length_cons];omega
set_option maxHeartbeats 4000000 in
theorem pparse_does (F:Base) (hg:HasMarks F) (hMx:HasMx F) (t:Str) (ht:t.length≤9223372036854775807):Does Tryz.prog F 10 #[.string (bs t)] [] (ParsePs F (polsS t)):=by
 refine Does.shr (K:=fun r H'=>∃ v Hx,r=.tuple #[v,.int .i64 (polsS t).2.1,.int .i64 (polsS t).2.2]∧SlP (rdObj F Hx) v (polsS t).1∧Wk Hx∧∀ e∈Hx,e∈H') ?_ fun r H' ⟨v,Hx,h1,h2,h4,h3⟩=>⟨Hx,h3,v,h1,h2,h4⟩
 refine does_of_svc (args:=[.string (bs t)]) mixed Tryz.func10 low10 (Nat.le_of_ble_eq_true rfl) (fun w0 hw0=>?_)
 simp only [*,fu10,↓ZD,ZW,RO,simprocAttr]
 refine CallE.mk0 (words_does F hg t ht) ?_
 intro v H1 hv _
 unfold WordsPost at hv
 unfold polsS
 by_cases hl:65536 < t.length
 ·rw [if_pos hl] at hv ⊢
  obtain ⟨rfl,rfl⟩:=hv
  simp only [*,↓ZD,ZW,RO,simprocAttr]
  exact ⟨v0,[],rfl,SlP.nil,Wk.nil,by simp⟩
 rw [if_neg hl] at hv ⊢
 cases hw:words t with
 | error y=>
  obtain ⟨e,a⟩:=y
  rw [hw] at hv
  obtain ⟨rfl,rfl⟩:=hv
  have he:=w1_err _ _ _ _ hw
  have hd:(e != 0)=true:=by simpa using he
  simp only [*,↓ZD,ZW,RO,simprocAttr]
  exact ⟨v0,[],rfl,SlP.nil,Wk.nil,by simp⟩
 | ok ws=>
  rw [hw] at hv
  obtain ⟨v,ho,rfl⟩:=hv
  have hws:=words_ok (by omega) hw
  have hne:=words_ne' hw
  have hWE:=words_end hw
  have hE:=words_endW hw
  rcases ho.out with ⟨h0,-⟩ | ⟨bw,cap,sp,rfl,rfl,hFw,h1,h2,h3,h4⟩
  ·exact absurd (cellsW_nil h0) hne
  have hW1:HasW (rdObj F [(bw,.cells (cellsW ws++sp).toArray 58 (0,0))]) ws (.slice (some ⟨bw,0,none⟩) ws.length cap):=⟨bw,cap,sp,_,_,rfl,rdObj_hd hFw,h3,h4,hne⟩
  have wG:Wk [(bw,Obj.cells (cellsW ws++sp).toArray 58 (0,0))]:=Wk.cb Wk.nil trivial
  have hz:(ws.length:Int) - (st0 0).p < ((ws.length+1:Nat):Int):=by simp only [st0];omega
  have hz2:InS ws (st0 0):=⟨Int.le_refl _,by have:=List.length_pos_iff.2 hne;simp only [st0];omega⟩
  clear ho
  simp only [*,↓ZD,ZW,RO,simprocAttr]
  refine NewB.n ?_
  rintro b ⟨_,_,_⟩ hFb
  simp only [*,↓ZD,ZW,RO,simprocAttr]
  refine EfL.mkMap fun bm hbm hFm=>?_
  replace hbm:=Nb.of hbm
  simp only [Nb_cons,Nb_app,Nb_nil] at hbm
  have gen:∀ {Y:List Pol×St},polsF ws (ws.length+1) [] (st0 0)=Y→PsOk F ws (.slice (some ⟨bw,0,none⟩) ws.length cap) b bm Y ⟨ws.length+1,st0 0,[],.slice none 0 0,[],[],[(bw,.cells (cellsW ws++sp).toArray 58 (0,0))]⟩:=fun h=>
   ⟨h,hz,rfl,hz2,hW1,.nil,trivial,Nat.zero_le _,by simp only [*,↓ZD,ZW,RO,simprocAttr],wG⟩
  dsimp only
  rw [show polsL ws=polsR (polsF ws (ws.length+1) [] (st0 0)) from rfl]
  generalize hY:polsF ws (ws.length+1) [] (st0 0)=Y
  have g0:=gen hY
  clear gen hz hz2 hY
  simp only [*,↓ZD,ZW,RO,simprocAttr]
  refine LoopL.inv (PsOk F ws (.slice (some ⟨bw,0,none⟩) ws.length cap) b bm Y) (fun y=>[(8,some (.pointer (some ⟨b,0,none⟩))),(9,some (.map (some bm))),(10,some y.v),(2,some (.slice none 0 0)),(3,some (.int .i64 0)),(4,some (.int .i64 0))])
   (fun y=>(b,RdP (.slice (some ⟨bw,0,none⟩) ws.length cap) y.s)::(bm,MapK (keysL (y.l.map Pol.id)))::(y.Ho++y.G)) (fun y=>y.n) _ g0 (by simp only [*,↓ZD,ZW,RO,simprocAttr]) (by simp only [*,↓ZD,ZW,RO,simprocAttr];exact ⟨rfl,rfl⟩) ?_
  clear g0 hW1 wG
  rintro ⟨n,s,l,v,gs,Ho,G⟩ ⟨y1,y2,y3,y4,y5,y6,y7,y8,y9,y10⟩
  dsimp only at y1 y2 y3 y4 y5 y6 y7 y8 y9 y10 ⊢
  have nf:=y6.noF
  have wk1:=OwnS.sub y6
  obtain ⟨base,capo,hv,hc⟩:=y6.len_le
  subst hv
  obtain ⟨n,rfl⟩:∃ k,n=k+1:=⟨n - 1,by have:=y4.2;omega⟩
  have hp0:=y4.1
  have hb:rdObj F ((b,RdP (.slice (some ⟨bw,0,none⟩) ws.length cap) s)::(bm,MapK (keysL (l.map Pol.id)))::(Ho++G)) b=some (RdP (.slice (some ⟨bw,0,none⟩) ws.length cap) s):=rdObj_hd hFb
  replace y3:id (s.e=0):=y3
  simp only [*,↓ZD,ZW,RO,simprocAttr]
  refine CallE.pureH (pword_pure _ (y5.mono fun _ _ h=>hle_rd (by simp only [*,↓ZD,ZW,RO,simprocAttr]) h) hE hp0 hb) ?_
  rw [polsF] at y1
  clear hb
  simp only [*,wf0,wsz,↓ZD,ZW,RO,simprocAttr]
  have hlen:=y7.len
  rw [← hlen] at y1
  replace hlen:id (gs.length=l.length):=hlen
  refine ⟨fun h=>?_,fun h=>?_⟩
  ·have hk:wk ws s≠0:=by unfold wk;simpa using h
   rw [if_neg hk] at y1
   have hq:=policy_go hWE (n:=(gs.length:Int)) (s:=s)
   have hlw:=hws.1
   have hpl:s.p < ws.length:=y4.2
   refine CallE.mkp (p:=s) (s':=(policyP ws gs.length s).2) (Q:=PolQ (policyP ws gs.length s).1) (fun F' k1 k2 k3=>ppolicy_does F' (hMx.mono k1) hws (y5.mono k2) hE hWE k3 hp0 (fun _=>y4) gs.length (by have:gs.length=l.length:=hlen;unfold I64;omega)) (PolQ.mono _) rfl (by simp only [*,↓ZD,ZW,RO,simprocAttr]) ?_
   generalize policyP ws gs.length s=z at *
   obtain ⟨x,s2⟩:=z
   dsimp only at y1 hq ⊢
   rintro r G2 ⟨cs,rfl,va,vc,rfl,hu,hcn⟩ ⟨nbG,djG,up,wkG⟩
   simp only [Dj_cons,Dj_nil,Dj_app] at djG
   have hva:oneCell va=true:=by obtain ⟨_,_,rfl,_⟩:=hu;rfl
   have hvc:oneCell vc=true:=by obtain ⟨_,⟨_,_,rfl,_⟩,_⟩:=hcn;rfl
   simp only [*,↓ZD,ZW,RO,simprocAttr]
   refine NewB.n ?_
   rintro b11 h11 hF11
   simp only [Nb_cons,Nb_app,Nb_nil] at h11
   simp only [*,↓ZD,ZW,RO,simprocAttr]
   refine ⟨fun h=>?_,fun h=>?_⟩
   ·have he2:s2.e≠0:=by simpa using h
    rw [if_pos he2] at y1
    subst y1
    rw [polsR_err he2]
    exact ⟨v0,[],rfl,SlP.nil,Wk.nil,by simp⟩
   ·have he2:s2.e=0:=by simpa using h
    rw [if_neg (by simpa using he2)] at y1
    obtain ⟨g1,g2⟩:=hq
    have g3:=g1.2 he2
    have hks:keysL ((l++[x]).map Pol.id)=keysS (keysL (l.map Pol.id)) x.id:=by rw [List.map_append,← keysL_snoc];rfl
    have key:∀ ks,keysS (keysL (l.map Pol.id)) x.id=ks→MapK ks=MapK (keysL ((l++[x]).map Pol.id)):=fun ks h=>by rw [hks,h]
    unfold keysS at key
    by_cases hin:x.id∈keysL (l.map Pol.id)
    ·rw [if_pos hin] at key
     refine EfL.setK_in (ks:=keysL (l.map Pol.id)) hFm (by simp only [*,↓ZD,ZW,RO,simprocAttr]) hin ?_
     rw [key _ rfl]
     simp only [*,↓ZD,ZW,RO,simprocAttr]
     refine NewB.n ?_
     intro bz hz hFz
     simp only [Nb_cons,Nb_app,Nb_nil] at hz
     simp only [*,↓ZD,ZW,RO,simprocAttr]
     have hal:∀ v∈polC x v0 va v0 vc,oneCell v=true:=by
      simp only [List.forall_mem_cons,List.not_mem_nil,false_implies,implies_true,and_true]
      simp only [*,↓ZD,ZW,RO,simprocAttr]
     have dj2:Dj G2 Ho:=Dj.symm (by simp only [*,↓ZD,ZW,RO,simprocAttr])
     refine EfL.more (m:=1) (nw:=polC x v0 va v0 vc) y6 (by simp only [*,↓ZD,ZW,RO,simprocAttr]) (rows1 hFz rfl) rfl hal (by simp) (by have:=hlw;have:gs.length=l.length:=hlen;omega) ?_
     intro bk capn sp2 hs hcap hcm hFn h2
     simp only [Nb_cons,Nb_app,Nb_nil] at h2
     simp only [*,↓ZD,ZW,RO,simprocAttr]
     refine invK.on ⟨n,s2,l++[x],.slice (some ⟨bk,0,none⟩) (gs.length+1) capn,gs++[polC x v0 va v0 vc],[(bk,.cells (gs.flatten++polC x v0 va v0 vc++sp2).toArray 51 (0,0))],G2⟩ ⟨y1,?_,he2,g3.2.2 y4,y5.mono up,?_,(y7.mono fun _ _=>RepPol.mono up).snoc ⟨va,vc,rfl,hu,hcn⟩,?_,by simp only [*,↓ZD,ZW,RO,simprocAttr],wkG⟩ (by show n < n+1;omega) (by simp only [*,↓ZD,ZW,RO,simprocAttr]) (by simp only [*,↓ZD,ZW,RO,simprocAttr])
     ·show (ws.length:Int) - s2.p < n
      have:=g2 he2
      omega
     ·exact OwnS.mk sp2 hFn (by simp) (by simp) (by simp only [List.flatten_append,List.length_append,flat21 y7,List.flatten_cons,List.flatten_nil,List.append_nil,List.length_cons,List.length_nil];omega) (by simpa using hs) (by simpa using hcap) hcm
     ·show (l++[x]).length≤s2.p.toNat
      have:=g2 he2
      rw [List.length_append,List.length_singleton]
      omega
    ·rw [if_neg hin] at key
     refine EfL.setK (ks:=keysL (l.map Pol.id)) hFm (by simp only [*,↓ZD,ZW,RO,simprocAttr]) hin ?_
     rw [key _ rfl]
     simp only [*,↓ZD,ZW,RO,simprocAttr]
     refine NewB.n ?_
     intro bz hz hFz
     simp only [Nb_cons,Nb_app,Nb_nil] at hz
     simp only [*,↓ZD,ZW,RO,simprocAttr]
     have hal:∀ v∈polC x v0 va v0 vc,oneCell v=true:=by
      simp only [List.forall_mem_cons,List.not_mem_nil,false_implies,implies_true,and_true]
      simp only [*,↓ZD,ZW,RO,simprocAttr]
     have dj2:Dj G2 Ho:=Dj.symm (by simp only [*,↓ZD,ZW,RO,simprocAttr])
     refine EfL.more (m:=1) (nw:=polC x v0 va v0 vc) y6 (by simp only [*,↓ZD,ZW,RO,simprocAttr]) (rows1 hFz rfl) rfl hal (by simp) (by have:=hlw;have:gs.length=l.length:=hlen;omega) ?_
     intro bk capn sp2 hs hcap hcm hFn h2
     simp only [Nb_cons,Nb_app,Nb_nil] at h2
     simp only [*,↓ZD,ZW,RO,simprocAttr]
     refine invK.on ⟨n,s2,l++[x],.slice (some ⟨bk,0,none⟩) (gs.length+1) capn,gs++[polC x v0 va v0 vc],[(bk,.cells (gs.flatten++polC x v0 va v0 vc++sp2).toArray 51 (0,0))],G2⟩ ⟨y1,?_,he2,g3.2.2 y4,y5.mono up,?_,(y7.mono fun _ _=>RepPol.mono up).snoc ⟨va,vc,rfl,hu,hcn⟩,?_,by simp only [*,↓ZD,ZW,RO,simprocAttr],wkG⟩ (by show n < n+1;omega) (by simp only [*,↓ZD,ZW,RO,simprocAttr]) (by simp only [*,↓ZD,ZW,RO,simprocAttr])
     ·show (ws.length:Int) - s2.p < n
      have:=g2 he2
      omega
     ·exact OwnS.mk sp2 hFn (by simp) (by simp) (by simp only [List.flatten_append,List.length_append,flat21 y7,List.flatten_cons,List.flatten_nil,List.append_nil,List.length_cons,List.length_nil];omega) (by simpa using hs) (by simpa using hcap) hcm
     ·show (l++[x]).length≤s2.p.toNat
      have:=g2 he2
      rw [List.length_append,List.length_singleton]
      omega
  ·have hk:wk ws s=0:=by unfold wk;simpa using h
   rw [if_pos hk] at y1
   subst y1
   refine EfL.lenK (ks:=keysL (l.map Pol.id)) hFm (by simp only [*,↓ZD,ZW,RO,simprocAttr]) ?_
   have tw:=keysL_len (l.map Pol.id)
   rw [List.length_map,← show gs.length=l.length from hlen] at tw
   have up:∀ b o,rdObj F G b=some o→rdObj F (Ho++G) b=some o:=fun _ _ h=>rdObj_r (Dj.iff.1 y9.2.2.2.2) h
   simp only [*,↓ZD,ZW,RO,simprocAttr]
   refine ⟨fun h=>?_,fun h=>?_⟩
   ·rw [polsR_two y3 (by rw [tw.2];simpa using h)]
    exact ⟨v0,[],rfl,SlP.nil,Wk.nil,by simp⟩
   ·rw [polsR_ok y3 (by rw [tw.2];simpa using h)]
    exact ⟨_,Ho++G,rfl,⟨gs,SlN.own y6 (All2.all (fun _ _ h=>RepPol.len h) y7) (fun e he=>(wk1.app y10 (Dj.iff.1 y9.2.2.2.2)) e (List.mem_append_left _ he)),y7.mono fun _ _=>RepPol.mono up⟩,wk1.app y10 (Dj.iff.1 y9.2.2.2.2),by simp +contextual⟩
end Go.Proofs.YtoelfmmfjebabaaGreatDoor
