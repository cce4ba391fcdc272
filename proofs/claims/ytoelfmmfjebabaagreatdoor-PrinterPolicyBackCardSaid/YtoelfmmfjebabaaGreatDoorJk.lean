/- Joined. -/
import Derived.Test.YtoelfmmfjebabaaGreatDoorJh
import Derived.Test.YtoelfmmfjebabaaGreatDoorRows
import Derived.LaidLaws
import Derived.LaidMore
import Derived.MakeChecks
import Derived.OpenShut
import Derived.WideKeyElems2
import Derived.MapFrom
set_option linter.unusedSectionVars false
namespace Go.Proofs.YtoelfmmfjebabaaGreatDoor
open Go Go.Eng
set_option maxHeartbeats 1000000
set_option linter.unusedSimpArgs false
set_option linter.unusedVariables false
set_option maxRecDepth 20000
def scells (x:Scp) (v:Value):List Value:=[.int .i64 x.kind,.string (bs x.ty),.string (bs x.ut),.string (bs x.ui),.bool x.slot,v]
def RepU (F:Base) (v:Value) (l:List (Str×Str)):Prop:=∃ a c,v=.slice a l.length c∧l.length≤c∧l.length≤9223372036854775807∧∀ (i:Nat) (p:Str×Str),l[i]?=some p→Cl F a 2 i [.string (bs p.1),.string (bs p.2)]
theorem RepU.mono {F F':Base} {v:Value} {l:List (Str×Str)} (h:RepU F v l) (hF:∀ b o,F b=some o→F' b=some o):RepU F' v l:=by
 obtain ⟨a,c,h1,h2,h3,h4⟩:=h;exact ⟨a,c,h1,h2,h3,fun i p hi=>(h4 i p hi).mono hF⟩
def RepSc (F:Base) (cs:List Value) (x:Scp):Prop:=∃ v,cs=scells x v∧I64 x.kind∧RepU F v x.list
theorem RepSc.mono {F F':Base} {cs:List Value} {x:Scp} (h:RepSc F cs x) (hF:∀ b o,F b=some o→F' b=some o):RepSc F' cs x:=by
 obtain ⟨v,h1,h2,h3⟩:=h;exact ⟨v,h1,h2,h3.mono hF⟩
def wtS (x:Scp):Nat:=x.ty.length+x.ut.length+x.ui.length+(x.list.map fun p=>p.1.length+p.2.length+3).sum
def placeT (x:Scp) (nm:Str):Str:=if x.slot then 63::nm else uidT x.ut x.ui
def placeOk (x:Scp) (nm:Str):Bool:=if x.slot then nm != actN else okPath x.ut
def uidsT (l:List (Str×Str)):List Str:=l.map fun p=>uidT p.1 p.2
def midT (x:Scp) (nm:Str):Str:=
 if x.kind=0 then [] else if x.kind=1 then [32,61,61,32]++placeT x nm else if x.kind=2 then [32,105,110,32]++placeT x nm
 else if (x.kind=3∨x.kind=4)∧nm≠actN then [32,105,115,32]++(x.ty++if x.kind=4 then [32,105,110,32]++placeT x nm else [])
 else if x.kind=5∧nm=actN then [32,105,110,32,91]++(rowT ahQ 0 (uidsT x.list)++[93]) else []
def midOk (x:Scp) (nm:Str):Bool:=
 if x.kind=0 then true else if x.kind=1 then placeOk x nm else if x.kind=2 then placeOk x nm
 else if (x.kind=3∨x.kind=4)∧nm≠actN then okPath x.ty&&(x.kind != 4||placeOk x nm)
 else if x.kind=5∧nm=actN then x.list.all fun p=>okPath p.1 else false
def scopeT (x:Scp) (nm:Str):Str:=nm++midT x nm
def scopeOk (x:Scp) (nm:Str):Bool:=midOk x nm&&!(nm==actN&&x.slot)
theorem uidT_len (ty id:Str):(uidT ty id).length≤ty.length+4 * id.length+4:=by
 have:=quote_len id
 simp only [uidT,cc,List.length_append,List.length_cons,List.length_nil];omega
theorem uids_len (l:List (Str×Str)):lenS (uidsT l)+2 * l.length≤4 * (l.map fun p=>p.1.length+p.2.length+3).sum:=by
 induction l with
 | nil=>exact Nat.le_refl 0
 | cons p l ih=>
  have:=uidT_len p.1 p.2
  have e:uidsT (p::l)=uidT p.1 p.2::uidsT l:=rfl
  rw [e,lenS,List.map_cons,List.sum_cons,List.length_cons]
  omega
theorem place_len (x:Scp) (nm:Str):(placeT x nm).length≤1+nm.length+4 * wtS x+4:=by
 have:=uidT_len x.ut x.ui
 unfold placeT wtS
 split <;> (try simp only [List.length_cons]) <;> omega
theorem sumP_mem {p:Str×Str}:∀ {l:List (Str×Str)},p∈l→p.1.length+p.2.length≤(l.map fun p=>p.1.length+p.2.length+3).sum
 | y::l,h=>by
  rw [List.map_cons,List.sum_cons]
  rcases List.mem_cons.1 h with rfl | h
  ·omega
  ·have:=sumP_mem h;omega
theorem rowQ_len (l:List Str):(rowT ahQ 0 l).length≤lenS l+2 * l.length:=by
 have:=rowT_len ahQ (fun _=>0) (fun _=>by simp [ahQ]) l 0
 rw [sum_zero] at this
 omega
theorem mid_len (x:Scp) (nm:Str):(midT x nm).length≤20+nm.length+8 * wtS x:=by
 have h1:=place_len x nm
 have h2:=rowQ_len (uidsT x.list)
 have h3:=uids_len x.list
 have h4:(uidsT x.list).length=x.list.length:=by simp [uidsT]
 have h5:(x.list.map fun p=>p.1.length+p.2.length+3).sum≤wtS x:=by unfold wtS;omega
 have h6:x.ty.length≤wtS x:=by unfold wtS;omega
 have h7:x.ty.length+x.ut.length+x.ui.length≤wtS x:=by unfold wtS;omega
 have h8:placeT x nm=63::nm∨placeT x nm=uidT x.ut x.ui:=by unfold placeT;split <;> simp
 have h9:=uidT_len x.ut x.ui
 unfold midT
 repeat' split
 all_goals simp only [List.length_append,List.length_cons,List.length_nil]
 all_goals rcases h8 with h8 | h8 <;> rw [h8] at * <;> simp only [List.length_cons] at * <;> omega
theorem HLe_pre2 {A:Hp} {b1 b2:Nat} {o1 o2:Obj} (h:∀ e∈A,lk A e.1=some e.2) (hd1:∀ e∈A,e.1≠b1) (hd2:∀ e∈A,e.1≠b2):HLe A ((b1,o1)::(b2,o2)::A):=
 HLe_pre (Hr:=[(b1,o1),(b2,o2)]) (A:=A) h fun e he=>by simp only [List.forall_mem_cons,List.not_mem_nil,false_implies,implies_true,and_true];exact ⟨hd1 e he,hd2 e he⟩
theorem place_wr (F:Base) (hg:HasM F) (b:Nat) (s:Str) (bad:Bool) {cs:List Value} {x:Scp} (hx:RepSc F cs x) (nm:Str) (hw:wtS x≤1048576) (hn:nm.length≤100) (hl:s.length≤99000000000000) :
  Wr F 74 [.pointer (some ⟨b,0,none⟩),.agg cs.toArray,.string (bs nm)] b s bad (s++placeT x nm) (bad||!placeOk x nm) (.tuple #[]):=by
 obtain ⟨kind,ty,ut,ui,slot,l⟩:=x
 obtain ⟨v,rfl,hk,a,c,rfl,hc,hln,hh⟩:=hx
 have hut:=uidT_len ut ui
 simp only [wtS] at hw hk hc hln hh
 refine Wr.of_svc mixed Tryz.func74 low74 (Nat.le_of_ble_eq_true rfl) fun H0 hp w0 hw0=>?_
 unfold scells
 cases slot with
 | true=>
  simp (disch:=first | assumption | exact .symm ‹_› | omega) only [fu74,Int.reduceBEq,↓ZD,ZW,simprocAttr]
  refine NewB.of fun b3 hb3 hF3=>?_
  simp (disch:=first | assumption | exact .symm ‹_› | omega) only [hF3,Int.reduceBEq,↓ZD,ZW,simprocAttr]
  refine wr_1 (must_wr _ b s bad (nm != actN)) hp hb3 fun Hw0 hpw0 hdw0_0=>?_
  simp (disch:=first | assumption | exact .symm ‹_› | omega) only [hF3,Int.reduceBEq,↓ZD,ZW,simprocAttr]
  refine new_1 fun b5 he5_0 hb5 hF5=>?_
  simp (disch:=first | assumption | exact .symm ‹_› | omega) only [hF3,hF5,Int.reduceBEq,↓ZD,ZW,simprocAttr]
  refine wr_11 (put2 _ b b5 9 (s) ([63]) (nm) _ (by simp [rdObj,hF5,lk]) (by (try simp only [List.length_append,List.length_cons,List.length_nil]);omega)) hpw0 hb5 hdw0_0 fun Hw1 hpw1 hdw1_0 hdw1_1=>?_
  simp (disch:=first | assumption | exact .symm ‹_› | omega) only [hF3,hF5,Int.reduceBEq,↓ZD,ZW,simprocAttr]
  exact ⟨Hw1,by simp +contextual,by simpa [placeT,placeOk] using hpw1⟩
 | false=>
  simp (disch:=first | assumption | exact .symm ‹_› | omega) only [fu74,Int.reduceBEq,↓ZD,ZW,simprocAttr]
  refine NewB.of fun b3 hb3 hF3=>?_
  simp (disch:=first | assumption | exact .symm ‹_› | omega) only [hF3,Int.reduceBEq,↓ZD,ZW,simprocAttr]
  refine wr_1 (uid_wr _ (hg.mono le_up) b s bad ut ui (by omega) (by unfold SmT;omega) (by unfold SmT;omega)) hp hb3 fun Hw0 hpw0 hdw0_0=>?_
  simp (disch:=first | assumption | exact .symm ‹_› | omega) only [hF3,Int.reduceBEq,↓ZD,ZW,simprocAttr]
  exact ⟨Hw0,by simp +contextual,by simpa [placeT,placeOk] using hpw0⟩
theorem scope_wr (F:Base) (hg:HasM F) (b:Nat) (s:Str) (bad:Bool) {cs:List Value} {x:Scp} (hx:RepSc F cs x) (nm:Str) (hw:wtS x≤1048576) (hn:nm.length≤100) (hl:s.length≤90000000000000) :
  Wr F 45 [.pointer (some ⟨b,0,none⟩),.agg cs.toArray,.string (bs nm)] b s bad (s++scopeT x nm) (bad||!scopeOk x nm) (.tuple #[]):=by
 have hmid:=place_len x nm
 have hpl:∀ (F':Base),(∀ b o,F b=some o→F' b=some o)→∀ (b:Nat) (s:Str) (bad:Bool),s.length≤99000000000000→Wr F' 74 [.pointer (some ⟨b,0,none⟩),.agg cs.toArray,.string (bs nm)] b s bad (s++placeT x nm) (bad||!placeOk x nm) (.tuple #[]):=fun F' hF b s bad h=>place_wr F' (hg.mono hF) b s bad (hx.mono hF) nm hw hn h
 have hw0:=hw
 obtain ⟨v,rfl,hk,a,c,rfl,hc,hln,hh⟩:=hx
 have hT:∀ m o,midT x nm=m→midOk x nm=o→scopeT x nm=nm++m∧scopeOk x nm=(o&&!(nm==actN&&x.slot)):=by rintro _ _ rfl rfl;exact ⟨rfl,rfl⟩
 generalize hP:placeT x nm=P at hmid hpl
 generalize hPo:placeOk x nm=Po at hpl
 generalize hS1:scopeT x nm=S1 at hT ⊢
 generalize hS2:scopeOk x nm=S2 at hT ⊢
 have hmT:midT x nm=midT x nm:=rfl
 have hmO:midOk x nm=midOk x nm:=rfl
 conv at hmT=>rhs;unfold midT;rw [hP]
 conv at hmO=>rhs;unfold midOk;rw [hPo]
 generalize midT x nm=mT at hT hmT
 generalize midOk x nm=mO at hT hmO
 obtain ⟨rfl,rfl⟩:=hT _ _ rfl rfl
 clear hT hS1 hS2 hP hPo
 obtain ⟨kind,ty,ut,ui,slot,l⟩:=x
 simp only [wtS] at hw hw0 hk hc hln hh hmid hmT hmO ⊢
 refine Wr.of_svc mixed Tryz.func45 low45 (Nat.le_of_ble_eq_true rfl) fun H0 hp w0 hw0=>?_
 unfold scells at hpl ⊢
 cases hact:(nm==actN) with
 | true=>
  have hact':(nm==[97,99,116,105,111,110])=true:=hact
  have hna:nm=actN:=by simpa using hact
  simp (disch:=first | assumption | exact .symm ‹_› | omega) only [hact',fu45,Int.reduceBEq,↓ZD,ZW,simprocAttr]
  refine NewB.of fun b3 hb3 hF3=>?_
  simp (disch:=first | assumption | exact .symm ‹_› | omega) only [hF3,hact',Int.reduceBEq,↓ZD,ZW,simprocAttr]
  refine new_1 fun b5 he5_0 hb5 hF5=>?_
  simp (disch:=first | assumption | exact .symm ‹_› | omega) only [hF3,hact',hF5,Int.reduceBEq,↓ZD,ZW,simprocAttr]
  refine wr_11 (put1 _ b b5 9 (s) (nm) _ (by simp [rdObj,hF5,lk]) (by (try simp only [List.length_append,List.length_cons,List.length_nil]);omega)) hp hb5 hb3 fun Hw0 hpw0 hdw0_0 hdw0_1=>?_
  simp (disch:=first | assumption | exact .symm ‹_› | omega) only [hF3,hact',hF5,Int.reduceBEq,↓ZD,ZW,simprocAttr]
  by_cases k0:kind=0
  ·have e0:(kind==0)=true:=by simpa using k0
   simp (disch:=first | assumption | exact .symm ‹_› | omega) only [hF3,hact',e0,Int.reduceBEq,↓ZD,ZW,simprocAttr]
   have hmT:mT=[]:=by rw [hmT];simp [hna,k0]
   have hmO:mO=true:=by rw [hmO];simp [hna,k0]
   refine wr_01 (must_wr _ b (s++nm) (bad) (!slot)) hpw0 hdw0_1 fun Hw1 hpw1 hdw1_0=>?_
   simp (disch:=first | assumption | exact .symm ‹_› | omega) only [hF3,hact',e0,Int.reduceBEq,↓ZD,ZW,simprocAttr]
   refine ⟨Hw1,by simp +contextual,hpw1.cast (by rw [hmT];simp) (by first | (rw [hmO];done) | (rw [hmO];cases bad <;> cases slot <;> simp))⟩
  have e0:(kind==0)=false:=by simpa using k0
  by_cases k1:kind=1
  ·have e1:(kind==1)=true:=by simpa using k1
   simp (disch:=first | assumption | exact .symm ‹_› | omega) only [hF3,hact',e0,e1,Int.reduceBEq,↓ZD,ZW,simprocAttr]
   refine new_2 fun b6 he6_0 he6_1 hb6 hF6=>?_
   simp (disch:=first | assumption | exact .symm ‹_› | omega) only [hF3,hact',e0,e1,hF6,Int.reduceBEq,↓ZD,ZW,simprocAttr]
   refine wr_101 (put1 _ b b6 9 (s++nm) ([32,61,61,32]) _ (by simp [rdObj,hF6,lk]) (by (try simp only [List.length_append,List.length_cons,List.length_nil]);omega)) hpw0 hb6 hdw0_1 fun Hw1 hpw1 hdw1_0 hdw1_1=>?_
   simp (disch:=first | assumption | exact .symm ‹_› | omega) only [hF3,hact',e0,e1,hF6,Int.reduceBEq,↓ZD,ZW,simprocAttr]
   refine wr_01 (hpl _ le_up b (s++nm++[32,61,61,32]) (bad) (by (try simp only [List.length_append,List.length_cons,List.length_nil]);omega)) hpw1 hdw1_1 fun Hw2 hpw2 hdw2_0=>?_
   simp (disch:=first | assumption | exact .symm ‹_› | omega) only [hF3,hact',e0,e1,hF6,Int.reduceBEq,↓ZD,ZW,simprocAttr]
   have hmT:mT=[32,61,61,32]++P:=by rw [hmT];simp [hna,k0,k1]
   have hmO:mO=Po:=by rw [hmO];simp [hna,k0,k1]
   refine wr_1 (must_wr _ b (s++nm++[32,61,61,32]++P) (bad||!Po) (!slot)) hpw2 hdw2_0 fun Hw3 hpw3 hdw3_0=>?_
   simp (disch:=first | assumption | exact .symm ‹_› | omega) only [hF3,hact',e0,e1,hF6,Int.reduceBEq,↓ZD,ZW,simprocAttr]
   refine ⟨Hw3,by simp +contextual,hpw3.cast (by rw [hmT];simp) (by first | (rw [hmO];done) | (rw [hmO];cases bad <;> cases slot <;> simp))⟩
  have e1:(kind==1)=false:=by simpa using k1
  by_cases k2:kind=2
  ·have e2:(kind==2)=true:=by simpa using k2
   simp (disch:=first | assumption | exact .symm ‹_› | omega) only [hF3,hact',e0,e1,e2,Int.reduceBEq,↓ZD,ZW,simprocAttr]
   refine new_2 fun b6 he6_0 he6_1 hb6 hF6=>?_
   simp (disch:=first | assumption | exact .symm ‹_› | omega) only [hF3,hact',e0,e1,e2,hF6,Int.reduceBEq,↓ZD,ZW,simprocAttr]
   refine wr_101 (put1 _ b b6 9 (s++nm) ([32,105,110,32]) _ (by simp [rdObj,hF6,lk]) (by (try simp only [List.length_append,List.length_cons,List.length_nil]);omega)) hpw0 hb6 hdw0_1 fun Hw1 hpw1 hdw1_0 hdw1_1=>?_
   simp (disch:=first | assumption | exact .symm ‹_› | omega) only [hF3,hact',e0,e1,e2,hF6,Int.reduceBEq,↓ZD,ZW,simprocAttr]
   refine wr_01 (hpl _ le_up b (s++nm++[32,105,110,32]) (bad) (by (try simp only [List.length_append,List.length_cons,List.length_nil]);omega)) hpw1 hdw1_1 fun Hw2 hpw2 hdw2_0=>?_
   simp (disch:=first | assumption | exact .symm ‹_› | omega) only [hF3,hact',e0,e1,e2,hF6,Int.reduceBEq,↓ZD,ZW,simprocAttr]
   have hmT:mT=[32,105,110,32]++P:=by rw [hmT];simp [hna,k0,k1,k2]
   have hmO:mO=Po:=by rw [hmO];simp [hna,k0,k1,k2]
   refine wr_1 (must_wr _ b (s++nm++[32,105,110,32]++P) (bad||!Po) (!slot)) hpw2 hdw2_0 fun Hw3 hpw3 hdw3_0=>?_
   simp (disch:=first | assumption | exact .symm ‹_› | omega) only [hF3,hact',e0,e1,e2,hF6,Int.reduceBEq,↓ZD,ZW,simprocAttr]
   refine ⟨Hw3,by simp +contextual,hpw3.cast (by rw [hmT];simp) (by first | (rw [hmO];done) | (rw [hmO];cases bad <;> cases slot <;> simp))⟩
  have e2:(kind==2)=false:=by simpa using k2
  by_cases k3:kind=3
  ·have e3:(kind==3)=true:=by simpa using k3
   have e4:(kind==4)=false:=by simp <;> omega
   have e5:(kind==5)=false:=by simp <;> omega
   simp (disch:=first | assumption | exact .symm ‹_› | omega) only [hF3,hact',e0,e1,e2,e3,e4,e5,Int.reduceBEq,↓ZD,ZW,simprocAttr]
   refine wr_01 (must_wr _ b (s++nm) (bad) false) hpw0 hdw0_1 fun Hw1 hpw1 hdw1_0=>?_
   simp (disch:=first | assumption | exact .symm ‹_› | omega) only [hF3,hact',e0,e1,e2,e3,e4,e5,Int.reduceBEq,↓ZD,ZW,simprocAttr]
   have hmT:mT=[]:=by rw [hmT];simp [hna,k0,k1,k2,k3]
   have hmO:mO=false:=by rw [hmO];simp [hna,k0,k1,k2,k3]
   refine wr_1 (must_wr _ b (s++nm) (bad||!false) (!slot)) hpw1 hdw1_0 fun Hw2 hpw2 hdw2_0=>?_
   simp (disch:=first | assumption | exact .symm ‹_› | omega) only [hF3,hact',e0,e1,e2,e3,e4,e5,Int.reduceBEq,↓ZD,ZW,simprocAttr]
   refine ⟨Hw2,by simp +contextual,hpw2.cast (by rw [hmT];simp) (by first | (rw [hmO];done) | (rw [hmO];cases bad <;> cases slot <;> simp))⟩
  have e3:(kind==3)=false:=by simpa using k3
  by_cases k4:kind=4
  ·have e4:(kind==4)=true:=by simpa using k4
   have e5:(kind==5)=false:=by simp <;> omega
   simp (disch:=first | assumption | exact .symm ‹_› | omega) only [hF3,hact',e0,e1,e2,e3,e4,e5,Int.reduceBEq,↓ZD,ZW,simprocAttr]
   refine wr_01 (must_wr _ b (s++nm) (bad) false) hpw0 hdw0_1 fun Hw1 hpw1 hdw1_0=>?_
   simp (disch:=first | assumption | exact .symm ‹_› | omega) only [hF3,hact',e0,e1,e2,e3,e4,e5,Int.reduceBEq,↓ZD,ZW,simprocAttr]
   have hmT:mT=[]:=by rw [hmT];simp [hna,k0,k1,k2,k3,k4]
   have hmO:mO=false:=by rw [hmO];simp [hna,k0,k1,k2,k3,k4]
   refine wr_1 (must_wr _ b (s++nm) (bad||!false) (!slot)) hpw1 hdw1_0 fun Hw2 hpw2 hdw2_0=>?_
   simp (disch:=first | assumption | exact .symm ‹_› | omega) only [hF3,hact',e0,e1,e2,e3,e4,e5,Int.reduceBEq,↓ZD,ZW,simprocAttr]
   refine ⟨Hw2,by simp +contextual,hpw2.cast (by rw [hmT];simp) (by first | (rw [hmO];done) | (rw [hmO];cases bad <;> cases slot <;> simp))⟩
  have e4:(kind==4)=false:=by simpa using k4
  by_cases k5:kind=5
  ·have e5:(kind==5)=true:=by simpa using k5
   simp (disch:=first | assumption | exact .symm ‹_› | omega) only [hF3,hact',e0,e1,e2,e3,e4,e5,Int.reduceBEq,↓ZD,ZW,simprocAttr]
   refine new_2 fun b6 he6_0 he6_1 hb6 hF6=>?_
   simp (disch:=first | assumption | exact .symm ‹_› | omega) only [hF3,hact',e0,e1,e2,e3,e4,e5,hF6,Int.reduceBEq,↓ZD,ZW,simprocAttr]
   refine wr_101 (put1 _ b b6 9 (s++nm) ([32,105,110,32,91]) _ (by simp [rdObj,hF6,lk]) (by (try simp only [List.length_append,List.length_cons,List.length_nil]);omega)) hpw0 hb6 hdw0_1 fun Hw1 hpw1 hdw1_0 hdw1_1=>?_
   simp (disch:=first | assumption | exact .symm ‹_› | omega) only [hF3,hact',e0,e1,e2,e3,e4,e5,hF6,Int.reduceBEq,↓ZD,ZW,simprocAttr]
   refine LoopL.inv (α:=Nat×Hp) (fun u=>u.1≤l.length∧Pst F b (s++nm++[32,105,110,32,91]++rowT ahQ 0 ((uidsT l).take u.1)) (bad||!((l.take u.1).all fun p=>okPath p.1)) u.2∧∀ e∈u.2,e.1≠b3)
    (fun u=>[(0,some (.pointer (some ⟨b,0,none⟩))),(4,some (.pointer (some ⟨b3,0,none⟩))),(6,some (.bool true)),(84,some (.slice a l.length c)),(85,some (.int .i64 l.length)),(86,some (.int .i64 u.1))])
    (fun u=>[(b3,.cells #[Value.int IntKind.i64 kind,Value.string (bs ty),Value.string (bs ut),Value.string (bs ui),Value.bool slot,Value.slice a l.length c] 48 (0,0))]++u.2) (fun u=>l.length - u.1) (0,Hw1) ⟨Nat.zero_le _,by simpa [rowT] using hpw1,hdw1_1⟩ (by (simp (disch:=first | assumption | exact .symm ‹_› | omega) only [↓ZD,ZW,simprocAttr];try trivial)) ?_ ?_
   ·exact ⟨by simp [lk,he6_1,Ne.symm he6_1],HLe_pre2 hpw1.lk hdw1_0 hdw1_1⟩
   rintro ⟨i,H⟩ ⟨hi,hpi,hd3⟩
   simp only at hi hpi hd3 ⊢
   have hue:=uids_len l
   have hql:=rowQ_len (uidsT l)
   have hul:(uidsT l).length=l.length:=by simp [uidsT]
   by_cases hlt:i < l.length
   ·have hd:decide ((i:Int) < (l.length:Int))=true:=by simp;omega
    have gx:l[i]?=some (l.getD i ([],[])):=getDs _ hlt
    generalize l.getD i ([],[])=p at gx
    have gu:(uidsT l)[i]?=some (uidT p.1 p.2):=by simp [uidsT,gx]
    have hps:=sumP_mem (List.mem_of_getElem? gx)
    have hle:=rowT_take_le ahQ (uidsT l) (i+1)
    have e9:=rowT_take ahQ gu
    rw [e9] at hle
    simp only [List.length_append] at hle
    have e10:(bad||!((l.take (i+1)).all fun p=>okPath p.1))=(bad||!((l.take i).all fun p=>okPath p.1)||!okPath p.1):=by
     rw [take_snoc gx,List.all_append];simp
     cases bad <;> simp
    obtain ⟨ba,oa,rfl,hla⟩:=(hh i p gx).ldn
    have hsl:(s++nm++[32,105,110,32,91]++rowT ahQ 0 ((uidsT l).take i)).length+((if 0 < i then ([44,32]:Str) else []).length+(uidT p.1 p.2).length)≤100000000000000:=by
     simp only [List.length_append,List.length_cons,List.length_nil,ahQ] at hle ⊢;omega
    generalize hS:s++nm++[32,105,110,32,91]++rowT ahQ 0 ((uidsT l).take i)=S at hpi hsl
    generalize hB:(bad||!((l.take i).all fun p=>okPath p.1))=B at hpi e10
    by_cases h0:0 < i
    ·have hz:decide ((0:Int) < (i:Int))=true:=by simp;omega
     rw [if_pos h0] at hsl
     simp only [List.length_cons,List.length_nil] at hsl
     simp (disch:=first | assumption | exact .symm ‹_› | omega) only [hF3,hact',e0,e1,e2,e3,e4,e5,hd,hz,Nat.mul_one,Int.reduceBEq,↓ZD,ZW,simprocAttr]
     refine conj.of (by omega) ?_
     simp (disch:=first | assumption | exact .symm ‹_› | omega) only [hF3,hact',e0,e1,e2,e3,e4,e5,hd,hz,Int.toNat_natCast,↓hla,Int.reduceBEq,↓ZD,ZW,simprocAttr]
     refine NewB.of fun b7 hb7 hF7=>?_
     simp only [List.forall_mem_cons] at hb7
     obtain ⟨he7_0,hb7⟩:=hb7
     have hu:∀ o,upd H b7 o=H:=fun o=>upd_new hb7
     simp (disch:=first | assumption | exact .symm ‹_› | omega) only [hF3,hact',e0,e1,e2,e3,e4,e5,hd,hz,hF7,hu,Int.reduceBEq,↓ZD,ZW,simprocAttr]
     refine new_2 fun b8 he8_0 he8_1 hb8 hF8=>?_
     simp (disch:=first | assumption | exact .symm ‹_› | omega) only [hF3,hact',e0,e1,e2,e3,e4,e5,hd,hz,hF7,hu,hF8,Int.reduceBEq,↓ZD,ZW,simprocAttr]
     refine wr_111 (put1 _ b b8 9 (S) ([44,32]) _ (by simp [rdObj,hF8,lk]) (by (try simp only [List.length_append,List.length_cons,List.length_nil]);omega)) hpi hb8 hb7 hd3 fun Hw2 hpw2 hdw2_0 hdw2_1 hdw2_2=>?_
     simp (disch:=first | assumption | exact .symm ‹_› | omega) only [hF3,hact',e0,e1,e2,e3,e4,e5,hd,hz,hF7,hu,hF8,Int.reduceBEq,↓ZD,ZW,simprocAttr]
     refine wr_011 (uid_wr _ (hg.mono le_up) b (S++[44,32]) (B) p.1 p.2 (by (try simp only [List.length_append,List.length_cons,List.length_nil]);omega) (by unfold SmT;omega) (by unfold SmT;omega)) hpw2 hdw2_1 hdw2_2 fun Hw3 hpw3 hdw3_0 hdw3_1=>?_
     simp (disch:=first | assumption | exact .symm ‹_› | omega) only [hF3,hact',e0,e1,e2,e3,e4,e5,hd,hz,hF7,hu,hF8,Int.reduceBEq,↓ZD,ZW,simprocAttr]
     refine invK.on (i+1,Hw3) ⟨by show i+1≤_;omega,hpw3.cast (by rw [e9,← List.append_assoc,hS,if_pos h0];simp [ahQ]) e10.symm,hdw3_1⟩ (by show _ - (i+1) < _ - i;omega) ?_ ?_
     ·simp only [Le_nil,Le_cons];simp (disch:=first | assumption | exact .symm ‹_› | omega) only [↓ZD,ZW,simprocAttr];first | done | trivial | rfl
     ·exact ⟨by simp [lk,he7_0,Ne.symm he7_0],HLe_pre2 hpw3.lk hdw3_0 hdw3_1⟩
    ·have hz:decide ((0:Int) < (i:Int))=false:=by simp;omega
     rw [if_neg h0] at hsl
     simp only [List.length_cons,List.length_nil] at hsl
     simp (disch:=first | assumption | exact .symm ‹_› | omega) only [hF3,hact',e0,e1,e2,e3,e4,e5,hd,hz,Nat.mul_one,Int.reduceBEq,↓ZD,ZW,simprocAttr]
     refine conj.of (by omega) ?_
     simp (disch:=first | assumption | exact .symm ‹_› | omega) only [hF3,hact',e0,e1,e2,e3,e4,e5,hd,hz,Int.toNat_natCast,↓hla,Int.reduceBEq,↓ZD,ZW,simprocAttr]
     refine NewB.of fun b7 hb7 hF7=>?_
     simp only [List.forall_mem_cons] at hb7
     obtain ⟨he7_0,hb7⟩:=hb7
     have hu:∀ o,upd H b7 o=H:=fun o=>upd_new hb7
     simp (disch:=first | assumption | exact .symm ‹_› | omega) only [hF3,hact',e0,e1,e2,e3,e4,e5,hd,hz,hF7,hu,Int.reduceBEq,↓ZD,ZW,simprocAttr]
     refine wr_11 (uid_wr _ (hg.mono le_up) b (S) (B) p.1 p.2 (by (try simp only [List.length_append,List.length_cons,List.length_nil]);omega) (by unfold SmT;omega) (by unfold SmT;omega)) hpi hb7 hd3 fun Hw2 hpw2 hdw2_0 hdw2_1=>?_
     simp (disch:=first | assumption | exact .symm ‹_› | omega) only [hF3,hact',e0,e1,e2,e3,e4,e5,hd,hz,hF7,hu,Int.reduceBEq,↓ZD,ZW,simprocAttr]
     refine invK.on (i+1,Hw2) ⟨by show i+1≤_;omega,hpw2.cast (by rw [e9,← List.append_assoc,hS,if_neg h0];simp [ahQ]) e10.symm,hdw2_1⟩ (by show _ - (i+1) < _ - i;omega) ?_ ?_
     ·simp only [Le_nil,Le_cons];simp (disch:=first | assumption | exact .symm ‹_› | omega) only [↓ZD,ZW,simprocAttr];first | done | trivial | rfl
     ·exact ⟨by simp [lk,he7_0,Ne.symm he7_0],HLe_pre2 hpw2.lk hdw2_0 hdw2_1⟩
   ·have hd:decide ((i:Int) < (l.length:Int))=false:=by simp;omega
    obtain rfl:i=l.length:=by omega
    rw [List.take_of_length_le (by omega),List.take_length] at hpi
    simp (disch:=first | assumption | exact .symm ‹_› | omega) only [hF3,hact',e0,e1,e2,e3,e4,e5,hd,Int.reduceBEq,↓ZD,ZW,simprocAttr]
    refine new_1 fun b7 he7_0 hb7 hF7=>?_
    simp (disch:=first | assumption | exact .symm ‹_› | omega) only [hF3,hact',e0,e1,e2,e3,e4,e5,hd,hF7,Int.reduceBEq,↓ZD,ZW,simprocAttr]
    refine wr_11 (put1 _ b b7 9 (s++nm++[32,105,110,32,91]++rowT ahQ 0 (uidsT l)) ([93]) _ (by simp [rdObj,hF7,lk]) (by (try simp only [List.length_append,List.length_cons,List.length_nil]);omega)) hpi hb7 hd3 fun Hw2 hpw2 hdw2_0 hdw2_1=>?_
    simp (disch:=first | assumption | exact .symm ‹_› | omega) only [hF3,hact',e0,e1,e2,e3,e4,e5,hd,hF7,Int.reduceBEq,↓ZD,ZW,simprocAttr]
    have hmT:mT=[32,105,110,32,91]++(rowT ahQ 0 (uidsT l)++[93]):=by rw [hmT];simp [hna,k0,k1,k2,k3,k4,k5]
    have hmO:mO=(l.all fun p=>okPath p.1):=by rw [hmO];simp [hna,k0,k1,k2,k3,k4,k5]
    refine wr_01 (must_wr _ b (s++nm++[32,105,110,32,91]++rowT ahQ 0 (uidsT l)++[93]) (bad||!(l.all fun p=>okPath p.1)) (!slot)) hpw2 hdw2_1 fun Hw3 hpw3 hdw3_0=>?_
    simp (disch:=first | assumption | exact .symm ‹_› | omega) only [hF3,hact',e0,e1,e2,e3,e4,e5,hd,hF7,Int.reduceBEq,↓ZD,ZW,simprocAttr]
    refine ⟨Hw3,by simp +contextual,hpw3.cast (by rw [hmT];simp) (by first | (rw [hmO];done) | (rw [hmO];cases bad <;> cases slot <;> simp))⟩
  have e5:(kind==5)=false:=by simpa using k5
  simp (disch:=first | assumption | exact .symm ‹_› | omega) only [hF3,hact',e0,e1,e2,e3,e4,e5,Int.reduceBEq,↓ZD,ZW,simprocAttr]
  refine wr_01 (must_wr _ b (s++nm) (bad) false) hpw0 hdw0_1 fun Hw1 hpw1 hdw1_0=>?_
  simp (disch:=first | assumption | exact .symm ‹_› | omega) only [hF3,hact',e0,e1,e2,e3,e4,e5,Int.reduceBEq,↓ZD,ZW,simprocAttr]
  have hmT:mT=[]:=by rw [hmT];simp [hna,k0,k1,k2,k3,k4,k5]
  have hmO:mO=false:=by rw [hmO];simp [hna,k0,k1,k2,k3,k4,k5]
  refine wr_1 (must_wr _ b (s++nm) (bad||!false) (!slot)) hpw1 hdw1_0 fun Hw2 hpw2 hdw2_0=>?_
  simp (disch:=first | assumption | exact .symm ‹_› | omega) only [hF3,hact',e0,e1,e2,e3,e4,e5,Int.reduceBEq,↓ZD,ZW,simprocAttr]
  refine ⟨Hw2,by simp +contextual,hpw2.cast (by rw [hmT];simp) (by first | (rw [hmO];done) | (rw [hmO];cases bad <;> cases slot <;> simp))⟩
 | false=>
  have hact':(nm==[97,99,116,105,111,110])=false:=hact
  have hna:¬ nm=actN:=by simpa using hact
  simp (disch:=first | assumption | exact .symm ‹_› | omega) only [hact',fu45,Int.reduceBEq,↓ZD,ZW,simprocAttr]
  refine NewB.of fun b3 hb3 hF3=>?_
  simp (disch:=first | assumption | exact .symm ‹_› | omega) only [hF3,hact',Int.reduceBEq,↓ZD,ZW,simprocAttr]
  refine new_1 fun b5 he5_0 hb5 hF5=>?_
  simp (disch:=first | assumption | exact .symm ‹_› | omega) only [hF3,hact',hF5,Int.reduceBEq,↓ZD,ZW,simprocAttr]
  refine wr_11 (put1 _ b b5 9 (s) (nm) _ (by simp [rdObj,hF5,lk]) (by (try simp only [List.length_append,List.length_cons,List.length_nil]);omega)) hp hb5 hb3 fun Hw0 hpw0 hdw0_0 hdw0_1=>?_
  simp (disch:=first | assumption | exact .symm ‹_› | omega) only [hF3,hact',hF5,Int.reduceBEq,↓ZD,ZW,simprocAttr]
  by_cases k0:kind=0
  ·have e0:(kind==0)=true:=by simpa using k0
   simp (disch:=first | assumption | exact .symm ‹_› | omega) only [hF3,hact',e0,Int.reduceBEq,↓ZD,ZW,simprocAttr]
   have hmT:mT=[]:=by rw [hmT];simp [hna,k0]
   have hmO:mO=true:=by rw [hmO];simp [hna,k0]
   refine wr_01 (must_wr _ b (s++nm) (bad) true) hpw0 hdw0_1 fun Hw1 hpw1 hdw1_0=>?_
   simp (disch:=first | assumption | exact .symm ‹_› | omega) only [hF3,hact',e0,Int.reduceBEq,↓ZD,ZW,simprocAttr]
   refine ⟨Hw1,by simp +contextual,hpw1.cast (by rw [hmT];simp) (by first | (rw [hmO];done) | (rw [hmO];cases bad <;> cases slot <;> simp))⟩
  have e0:(kind==0)=false:=by simpa using k0
  by_cases k1:kind=1
  ·have e1:(kind==1)=true:=by simpa using k1
   simp (disch:=first | assumption | exact .symm ‹_› | omega) only [hF3,hact',e0,e1,Int.reduceBEq,↓ZD,ZW,simprocAttr]
   refine new_2 fun b6 he6_0 he6_1 hb6 hF6=>?_
   simp (disch:=first | assumption | exact .symm ‹_› | omega) only [hF3,hact',e0,e1,hF6,Int.reduceBEq,↓ZD,ZW,simprocAttr]
   refine wr_101 (put1 _ b b6 9 (s++nm) ([32,61,61,32]) _ (by simp [rdObj,hF6,lk]) (by (try simp only [List.length_append,List.length_cons,List.length_nil]);omega)) hpw0 hb6 hdw0_1 fun Hw1 hpw1 hdw1_0 hdw1_1=>?_
   simp (disch:=first | assumption | exact .symm ‹_› | omega) only [hF3,hact',e0,e1,hF6,Int.reduceBEq,↓ZD,ZW,simprocAttr]
   refine wr_01 (hpl _ le_up b (s++nm++[32,61,61,32]) (bad) (by (try simp only [List.length_append,List.length_cons,List.length_nil]);omega)) hpw1 hdw1_1 fun Hw2 hpw2 hdw2_0=>?_
   simp (disch:=first | assumption | exact .symm ‹_› | omega) only [hF3,hact',e0,e1,hF6,Int.reduceBEq,↓ZD,ZW,simprocAttr]
   have hmT:mT=[32,61,61,32]++P:=by rw [hmT];simp [hna,k0,k1]
   have hmO:mO=Po:=by rw [hmO];simp [hna,k0,k1]
   refine wr_1 (must_wr _ b (s++nm++[32,61,61,32]++P) (bad||!Po) true) hpw2 hdw2_0 fun Hw3 hpw3 hdw3_0=>?_
   simp (disch:=first | assumption | exact .symm ‹_› | omega) only [hF3,hact',e0,e1,hF6,Int.reduceBEq,↓ZD,ZW,simprocAttr]
   refine ⟨Hw3,by simp +contextual,hpw3.cast (by rw [hmT];simp) (by first | (rw [hmO];done) | (rw [hmO];cases bad <;> cases slot <;> simp))⟩
  have e1:(kind==1)=false:=by simpa using k1
  by_cases k2:kind=2
  ·have e2:(kind==2)=true:=by simpa using k2
   simp (disch:=first | assumption | exact .symm ‹_› | omega) only [hF3,hact',e0,e1,e2,Int.reduceBEq,↓ZD,ZW,simprocAttr]
   refine new_2 fun b6 he6_0 he6_1 hb6 hF6=>?_
   simp (disch:=first | assumption | exact .symm ‹_› | omega) only [hF3,hact',e0,e1,e2,hF6,Int.reduceBEq,↓ZD,ZW,simprocAttr]
   refine wr_101 (put1 _ b b6 9 (s++nm) ([32,105,110,32]) _ (by simp [rdObj,hF6,lk]) (by (try simp only [List.length_append,List.length_cons,List.length_nil]);omega)) hpw0 hb6 hdw0_1 fun Hw1 hpw1 hdw1_0 hdw1_1=>?_
   simp (disch:=first | assumption | exact .symm ‹_› | omega) only [hF3,hact',e0,e1,e2,hF6,Int.reduceBEq,↓ZD,ZW,simprocAttr]
   refine wr_01 (hpl _ le_up b (s++nm++[32,105,110,32]) (bad) (by (try simp only [List.length_append,List.length_cons,List.length_nil]);omega)) hpw1 hdw1_1 fun Hw2 hpw2 hdw2_0=>?_
   simp (disch:=first | assumption | exact .symm ‹_› | omega) only [hF3,hact',e0,e1,e2,hF6,Int.reduceBEq,↓ZD,ZW,simprocAttr]
   have hmT:mT=[32,105,110,32]++P:=by rw [hmT];simp [hna,k0,k1,k2]
   have hmO:mO=Po:=by rw [hmO];simp [hna,k0,k1,k2]
   refine wr_1 (must_wr _ b (s++nm++[32,105,110,32]++P) (bad||!Po) true) hpw2 hdw2_0 fun Hw3 hpw3 hdw3_0=>?_
   simp (disch:=first | assumption | exact .symm ‹_› | omega) only [hF3,hact',e0,e1,e2,hF6,Int.reduceBEq,↓ZD,ZW,simprocAttr]
   refine ⟨Hw3,by simp +contextual,hpw3.cast (by rw [hmT];simp) (by first | (rw [hmO];done) | (rw [hmO];cases bad <;> cases slot <;> simp))⟩
  have e2:(kind==2)=false:=by simpa using k2
  by_cases k3:kind=3
  ·have e3:(kind==3)=true:=by simpa using k3
   have e4:(kind==4)=false:=by simp <;> omega
   have e5:(kind==5)=false:=by simp <;> omega
   simp (disch:=first | assumption | exact .symm ‹_› | omega) only [hF3,hact',e0,e1,e2,e3,e4,e5,Int.reduceBEq,↓ZD,ZW,simprocAttr]
   refine new_2 fun b6 he6_0 he6_1 hb6 hF6=>?_
   simp (disch:=first | assumption | exact .symm ‹_› | omega) only [hF3,hact',e0,e1,e2,e3,e4,e5,hF6,Int.reduceBEq,↓ZD,ZW,simprocAttr]
   refine wr_101 (put1 _ b b6 9 (s++nm) ([32,105,115,32]) _ (by simp [rdObj,hF6,lk]) (by (try simp only [List.length_append,List.length_cons,List.length_nil]);omega)) hpw0 hb6 hdw0_1 fun Hw1 hpw1 hdw1_0 hdw1_1=>?_
   simp (disch:=first | assumption | exact .symm ‹_› | omega) only [hF3,hact',e0,e1,e2,e3,e4,e5,hF6,Int.reduceBEq,↓ZD,ZW,simprocAttr]
   refine wr_01 (path_wr _ (hg.mono le_up) b (s++nm++[32,105,115,32]) (bad) ty (by (try simp only [List.length_append,List.length_cons,List.length_nil]);omega) (by omega)) hpw1 hdw1_1 fun Hw2 hpw2 hdw2_0=>?_
   simp (disch:=first | assumption | exact .symm ‹_› | omega) only [hF3,hact',e0,e1,e2,e3,e4,e5,hF6,Int.reduceBEq,↓ZD,ZW,simprocAttr]
   have hmT:mT=[32,105,115,32]++ty:=by rw [hmT];simp [hna,k0,k1,k2,k3]
   have hmO:mO=okPath ty:=by rw [hmO];simp [hna,k0,k1,k2,k3]
   refine wr_1 (must_wr _ b (s++nm++[32,105,115,32]++ty) (bad||!okPath ty) true) hpw2 hdw2_0 fun Hw3 hpw3 hdw3_0=>?_
   simp (disch:=first | assumption | exact .symm ‹_› | omega) only [hF3,hact',e0,e1,e2,e3,e4,e5,hF6,Int.reduceBEq,↓ZD,ZW,simprocAttr]
   refine ⟨Hw3,by simp +contextual,hpw3.cast (by rw [hmT];simp) (by first | (rw [hmO];done) | (rw [hmO];cases bad <;> cases slot <;> simp))⟩
  have e3:(kind==3)=false:=by simpa using k3
  by_cases k4:kind=4
  ·have e4:(kind==4)=true:=by simpa using k4
   have e5:(kind==5)=false:=by simp <;> omega
   simp (disch:=first | assumption | exact .symm ‹_› | omega) only [hF3,hact',e0,e1,e2,e3,e4,e5,Int.reduceBEq,↓ZD,ZW,simprocAttr]
   refine new_2 fun b6 he6_0 he6_1 hb6 hF6=>?_
   simp (disch:=first | assumption | exact .symm ‹_› | omega) only [hF3,hact',e0,e1,e2,e3,e4,e5,hF6,Int.reduceBEq,↓ZD,ZW,simprocAttr]
   refine wr_101 (put1 _ b b6 9 (s++nm) ([32,105,115,32]) _ (by simp [rdObj,hF6,lk]) (by (try simp only [List.length_append,List.length_cons,List.length_nil]);omega)) hpw0 hb6 hdw0_1 fun Hw1 hpw1 hdw1_0 hdw1_1=>?_
   simp (disch:=first | assumption | exact .symm ‹_› | omega) only [hF3,hact',e0,e1,e2,e3,e4,e5,hF6,Int.reduceBEq,↓ZD,ZW,simprocAttr]
   refine wr_01 (path_wr _ (hg.mono le_up) b (s++nm++[32,105,115,32]) (bad) ty (by (try simp only [List.length_append,List.length_cons,List.length_nil]);omega) (by omega)) hpw1 hdw1_1 fun Hw2 hpw2 hdw2_0=>?_
   simp (disch:=first | assumption | exact .symm ‹_› | omega) only [hF3,hact',e0,e1,e2,e3,e4,e5,hF6,Int.reduceBEq,↓ZD,ZW,simprocAttr]
   refine new_1 fun b7 he7_0 hb7 hF7=>?_
   simp (disch:=first | assumption | exact .symm ‹_› | omega) only [hF3,hact',e0,e1,e2,e3,e4,e5,hF7,Int.reduceBEq,↓ZD,ZW,simprocAttr]
   refine wr_11 (put1 _ b b7 9 (s++nm++[32,105,115,32]++ty) ([32,105,110,32]) _ (by simp [rdObj,hF7,lk]) (by (try simp only [List.length_append,List.length_cons,List.length_nil]);omega)) hpw2 hb7 hdw2_0 fun Hw3 hpw3 hdw3_0 hdw3_1=>?_
   simp (disch:=first | assumption | exact .symm ‹_› | omega) only [hF3,hact',e0,e1,e2,e3,e4,e5,hF7,Int.reduceBEq,↓ZD,ZW,simprocAttr]
   refine wr_01 (hpl _ le_up b (s++nm++[32,105,115,32]++ty++[32,105,110,32]) (bad||!okPath ty) (by (try simp only [List.length_append,List.length_cons,List.length_nil]);omega)) hpw3 hdw3_1 fun Hw4 hpw4 hdw4_0=>?_
   simp (disch:=first | assumption | exact .symm ‹_› | omega) only [hF3,hact',e0,e1,e2,e3,e4,e5,hF7,Int.reduceBEq,↓ZD,ZW,simprocAttr]
   have hmT:mT=[32,105,115,32]++(ty++([32,105,110,32]++P)):=by rw [hmT];simp [hna,k0,k1,k2,k3,k4]
   have hmO:mO=(okPath ty&&Po):=by rw [hmO];simp [hna,k0,k1,k2,k3,k4]
   refine wr_1 (must_wr _ b (s++nm++[32,105,115,32]++ty++[32,105,110,32]++P) (bad||!okPath ty||!Po) true) hpw4 hdw4_0 fun Hw5 hpw5 hdw5_0=>?_
   simp (disch:=first | assumption | exact .symm ‹_› | omega) only [hF3,hact',e0,e1,e2,e3,e4,e5,hF7,Int.reduceBEq,↓ZD,ZW,simprocAttr]
   refine ⟨Hw5,by simp +contextual,hpw5.cast (by rw [hmT];simp) (by first | (rw [hmO];done) | (rw [hmO];cases bad <;> cases slot <;> simp))⟩
  have e4:(kind==4)=false:=by simpa using k4
  by_cases k5:kind=5
  ·have e5:(kind==5)=true:=by simpa using k5
   simp (disch:=first | assumption | exact .symm ‹_› | omega) only [hF3,hact',e0,e1,e2,e3,e4,e5,Int.reduceBEq,↓ZD,ZW,simprocAttr]
   refine wr_01 (must_wr _ b (s++nm) (bad) false) hpw0 hdw0_1 fun Hw1 hpw1 hdw1_0=>?_
   simp (disch:=first | assumption | exact .symm ‹_› | omega) only [hF3,hact',e0,e1,e2,e3,e4,e5,Int.reduceBEq,↓ZD,ZW,simprocAttr]
   have hmT:mT=[]:=by rw [hmT];simp [hna,k0,k1,k2,k3,k4,k5]
   have hmO:mO=false:=by rw [hmO];simp [hna,k0,k1,k2,k3,k4,k5]
   refine wr_1 (must_wr _ b (s++nm) (bad||!false) true) hpw1 hdw1_0 fun Hw2 hpw2 hdw2_0=>?_
   simp (disch:=first | assumption | exact .symm ‹_› | omega) only [hF3,hact',e0,e1,e2,e3,e4,e5,Int.reduceBEq,↓ZD,ZW,simprocAttr]
   refine ⟨Hw2,by simp +contextual,hpw2.cast (by rw [hmT];simp) (by first | (rw [hmO];done) | (rw [hmO];cases bad <;> cases slot <;> simp))⟩
  have e5:(kind==5)=false:=by simpa using k5
  simp (disch:=first | assumption | exact .symm ‹_› | omega) only [hF3,hact',e0,e1,e2,e3,e4,e5,Int.reduceBEq,↓ZD,ZW,simprocAttr]
  refine wr_01 (must_wr _ b (s++nm) (bad) false) hpw0 hdw0_1 fun Hw1 hpw1 hdw1_0=>?_
  simp (disch:=first | assumption | exact .symm ‹_› | omega) only [hF3,hact',e0,e1,e2,e3,e4,e5,Int.reduceBEq,↓ZD,ZW,simprocAttr]
  have hmT:mT=[]:=by rw [hmT];simp [hna,k0,k1,k2,k3,k4,k5]
  have hmO:mO=false:=by rw [hmO];simp [hna,k0,k1,k2,k3,k4,k5]
  refine wr_1 (must_wr _ b (s++nm) (bad||!false) true) hpw1 hdw1_0 fun Hw2 hpw2 hdw2_0=>?_
  simp (disch:=first | assumption | exact .symm ‹_› | omega) only [hF3,hact',e0,e1,e2,e3,e4,e5,Int.reduceBEq,↓ZD,ZW,simprocAttr]
  refine ⟨Hw2,by simp +contextual,hpw2.cast (by rw [hmT];simp) (by first | (rw [hmO];done) | (rw [hmO];cases bad <;> cases slot <;> simp))⟩
def RepCo (F:Base) (v:Value) (l:List (Bool×Ex')):Prop:=∃ a c,∃ g:Nat→List Value,v=.slice a l.length c∧l.length≤c∧l.length≤9223372036854775807∧(∀ (i:Nat) (x:Bool×Ex'),l[i]?=some x→Cl F a 13 i (.bool x.1::g i))∧∀ (i:Nat) (x:Bool×Ex'),l[i]?=some x→RepX F (g i) x.2
theorem RepCo.mono {F F':Base} {v:Value} {l:List (Bool×Ex')} (h:RepCo F v l) (hF:∀ b o,F b=some o→F' b=some o):RepCo F' v l:=by
 obtain ⟨a,c,g,h1,h2,h3,h4,h5⟩:=h;exact ⟨a,c,g,h1,h2,h3,fun i x hi=>(h4 i x hi).mono hF,fun i x hi=>(h5 i x hi).mono hF⟩
def pcells (x:Pol) (vp va vr vc:Value):List Value:=[.string (bs x.id),.bool x.permit]++scells x.p vp++scells x.a va++scells x.r vr++[vc]
def RepPolT (F:Base) (cs:List Value) (x:Pol):Prop:=∃ vp va vr vc,cs=pcells x vp va vr vc∧(I64 x.p.kind∧I64 x.a.kind∧I64 x.r.kind)∧RepU F vp x.p.list∧RepU F va x.a.list∧RepU F vr x.r.list∧RepCo F vc x.conds
theorem RepPolT.mono {F F':Base} {cs:List Value} {x:Pol} (h:RepPolT F cs x) (hF:∀ b o,F b=some o→F' b=some o):RepPolT F' cs x:=by
 obtain ⟨vp,va,vr,vc,h1,h2,h3,h4,h5,h6⟩:=h;exact ⟨vp,va,vr,vc,h1,h2,h3.mono hF,h4.mono hF,h5.mono hF,h6.mono hF⟩
def polOk (x:Pol):Bool:=scopeOk x.p prN&&(scopeOk x.a actN&&scopeOk x.r reN)
def wtP (x:Pol):Nat:=x.id.length+wtS x.p+wtS x.a+wtS x.r+(x.conds.map fun c=>wt c.2).sum
def headT (x:Pol):Str:=[64,105,100,40]++(quote x.id++([41,32]++((if x.permit then [112,101,114,109,105,116,40] else [102,111,114,98,105,100,40])++(scopeT x.p prN++([44,32]++(scopeT x.a actN++([44,32]++(scopeT x.r reN++[41]))))))))
def condTx (c:Bool×Ex'):Str:=(if c.1 then [32,119,104,101,110,32,123,32] else [32,117,110,108,101,115,115,32,123,32])++((ptx c.2).1++[32,125])
def condsT:List (Bool×Ex')→Str
 | []=>[]
 | c::l=>condTx c++condsT l
def condsE:List (Bool×Ex')→Int
 | []=>0
 | c::l=>if (ptx c.2).2=0 then condsE l else (ptx c.2).2
def polE (x:Pol):Int:=if polOk x then condsE x.conds else 1
def polTx (x:Pol):Str:=headT x++(condsT x.conds++[59,10])
theorem condsT_snoc (c:Bool×Ex'):∀ l,condsT (l++[c])=condsT l++condTx c
 | []=>by simp [condsT]
 | x::l=>by rw [List.cons_append,condsT,condsT,condsT_snoc c l,List.append_assoc]
theorem condsT_app:∀ l m,condsT (l++m)=condsT l++condsT m
 | [],m=>by simp [condsT]
 | x::l,m=>by rw [List.cons_append,condsT,condsT,condsT_app l m,List.append_assoc]
theorem condsT_take (l:List (Bool×Ex')) (i:Nat):(condsT (l.take i)).length≤(condsT l).length:=by
 have e:condsT l=condsT (l.take i)++condsT (l.drop i):=by rw [← condsT_app,List.take_append_drop]
 rw [e,List.length_append];omega
theorem condsE_zero:∀ {l:List (Bool×Ex')},(∀ c∈l,(ptx c.2).2=0)→condsE l=0
 | [],_=>rfl
 | c::l,h=>by rw [condsE,if_pos (h c List.mem_cons_self)];exact condsE_zero fun c hc=>h c (List.mem_cons_of_mem _ hc)
theorem condsE_at:∀ {l:List (Bool×Ex')} {i:Nat} {c:Bool×Ex'},l[i]?=some c→(∀ c∈l.take i,(ptx c.2).2=0)→(ptx c.2).2≠0→condsE l=(ptx c.2).2
 | y::l,0,c,h,_,hn=>by simp only [List.getElem?_cons_zero,Option.some.injEq] at h;subst h;rw [condsE,if_neg hn]
 | y::l,i+1,c,h,hz,hn=>by
  rw [condsE,if_pos (hz y (by simp))]
  exact condsE_at (l:=l) (i:=i) (by simpa using h) (fun c hc=>hz c (by simp [hc])) hn
theorem ptx_len {F:Base} {cs:List Value} {x:Ex'} (h:RepX F cs x):(ptx x).1.length≤30 * wt x:=by
 have:=pt_len h
 unfold ptx
 split
 ·simp
 ·split <;> simp <;> omega
theorem condTx_len {F:Base} {cs:List Value} {c:Bool×Ex'} (h:RepX F cs c.2):(condTx c).length≤30 * wt c.2+12:=by
 have:=ptx_len h
 unfold condTx
 split <;> simp only [List.length_append,List.length_cons,List.length_nil] <;> omega
theorem condsT_len {F:Base} {g:Nat→List Value}:∀ {l:List (Bool×Ex')},(∀ c∈l,∃ cs,RepX F cs c.2)→(condsT l).length≤31 * (l.map fun c=>wt c.2).sum
 | [],_=>by simp [condsT]
 | c::l,h=>by
  obtain ⟨cs,hc⟩:=h c List.mem_cons_self
  have h1:=condTx_len hc
  have h2:=wt_pos c.2
  have h3:=condsT_len (g:=g) (l:=l) fun c hc=>h c (List.mem_cons_of_mem _ hc)
  rw [condsT,List.length_append,List.map_cons,List.sum_cons];omega
theorem sumC_mem {c:Bool×Ex'}:∀ {l:List (Bool×Ex')},c∈l→wt c.2≤(l.map fun c=>wt c.2).sum
 | y::l,h=>by
  rw [List.map_cons,List.sum_cons]
  rcases List.mem_cons.1 h with rfl | h
  ·omega
  ·have:=sumC_mem h;omega
theorem scopeT_len (x:Scp) (nm:Str):(scopeT x nm).length≤20+2 * nm.length+8 * wtS x:=by
 have:=mid_len x nm
 unfold scopeT
 rw [List.length_append];omega
theorem headT_len (x:Pol):(headT x).length≤200+8 * wtP x:=by
 have h1:=scopeT_len x.p prN
 have h2:=scopeT_len x.a actN
 have h3:=scopeT_len x.r reN
 have h4:=quote_len x.id
 have h5:prN.length=9∧actN.length=6∧reN.length=8:=by decide
 unfold headT wtP
 split <;> simp only [List.length_append,List.length_cons,List.length_nil] <;> omega
set_option maxHeartbeats 4000000 in
theorem policy_does (F:Base) (hM:HasM F) (hS:HasSigns F) (b:Nat) (s:Str) {cs:List Value} {x:Pol} (hx:RepPolT F cs x) (hw:wtP x≤1048576) (hl:s.length≤80000000000000) (H0:Hp) (hp:Pst F b s false H0) :
  Does Tryz.prog F 21 #[.pointer (some ⟨b,0,none⟩),.agg cs.toArray] H0 (fun r H'=>r=.int .i64 (polE x)∧(polE x=0→Pst F b (s++polTx x) false H')):=by
 have hhl:=headT_len x
 refine Does.shr (K:=fun r H'=>r=.int .i64 (polE x)∧∃ Hc,(∀ e∈Hc,e∈H')∧(polE x=0→Pst F b (s++polTx x) false Hc)) ?_ fun _ _ ⟨h1,Hc,h2,h3⟩=>⟨Hc,h2,h1,h3⟩
 obtain ⟨vp,va,vr,vc,rfl,⟨kp,ka,kr⟩,up,ua,ur,uc⟩:=hx
 have sp:RepSc F (scells x.p vp) x.p:=⟨_,rfl,kp,up⟩
 have sa:RepSc F (scells x.a va) x.a:=⟨_,rfl,ka,ua⟩
 have sr:RepSc F (scells x.r vr) x.r:=⟨_,rfl,kr,ur⟩
 obtain ⟨a1,c1,rfl,-⟩:=up
 obtain ⟨a2,c2,rfl,-⟩:=ua
 obtain ⟨a3,c3,rfl,-⟩:=ur
 obtain ⟨ac,cc0,gc,rfl,hcc,hcl,hc1,hc2⟩:=uc
 have hcon:=condsT_len (F:=F) (g:=gc) (l:=x.conds) fun c hc=>by
  obtain ⟨i,hi⟩:=List.getElem?_of_mem hc
  exact ⟨_,hc2 i c hi⟩
 have hhd:∀ S,s++headT x=S→S.length+(condsT x.conds).length+2≤100000000000000:=by
  rintro _ rfl;rw [List.length_append];unfold wtP at hw hhl;omega
 have hfin:polTx x=headT x++(condsT x.conds++[59,10]):=rfl
 have hE:polE x=if polOk x then condsE x.conds else 1:=rfl
 have hO:polOk x=(scopeOk x.p prN&&(scopeOk x.a actN&&scopeOk x.r reN)):=rfl
 have hH:headT x=[64,105,100,40]++(quote x.id++([41,32]++((if x.permit then [112,101,114,109,105,116,40] else [102,111,114,98,105,100,40])++(scopeT x.p prN++([44,32]++(scopeT x.a actN++([44,32]++(scopeT x.r reN++[41])))))))):=rfl
 have hP:wtP x=x.id.length+wtS x.p+wtS x.a+wtS x.r+(x.conds.map fun c=>wt c.2).sum:=rfl
 rw [hP] at hw hhl
 clear hP
 generalize polE x=E at *
 generalize polTx x=TX at *
 generalize polOk x=OK at *
 generalize headT x=HD at *
 obtain ⟨id,permit,p,a,r,conds⟩:=x
 simp only at hw hhl sp sa sr hcc hcl hc1 hc2 hcon hfin hE hO hH hhd
 have hl1:=scopeT_len p prN
 have hl2:=scopeT_len a actN
 have hl3:=scopeT_len r reN
 have hl4:=quote_len id
 have hl5:prN.length=9∧actN.length=6∧reN.length=8:=by decide
 refine does_of_svc mixed Tryz.func21 low21 (Nat.le_of_ble_eq_true rfl) (fun w0 hw0=>?_)
 unfold pcells scells
 unfold scells at sp sa sr
 cases permit with
 | true=>
  simp (disch:=first | assumption | exact .symm ‹_› | omega) only [fu21,Int.reduceBEq,↓ZD,ZW,simprocAttr]
  refine NewB.of fun b3 hb3 hF3=>?_
  simp (disch:=first | assumption | exact .symm ‹_› | omega) only [hF3,Int.reduceBEq,↓ZD,ZW,simprocAttr]
  refine CallE.pure (quote_pure F id (by omega)) ?_
  simp (disch:=first | assumption | exact .symm ‹_› | omega) only [hF3,Int.reduceBEq,↓ZD,ZW,simprocAttr]
  refine new_1 fun b5 he5_0 hb5 hF5=>?_
  simp (disch:=first | assumption | exact .symm ‹_› | omega) only [hF3,hF5,Int.reduceBEq,↓ZD,ZW,simprocAttr]
  refine wr_11 (put3 _ b b5 9 (s) ([64,105,100,40]) ((quote id)) ([41,32]) _ (by simp [rdObj,hF5,lk]) (by (try simp only [List.length_append,List.length_cons,List.length_nil]);omega)) hp hb5 hb3 fun Hw0 hpw0 hdw0_0 hdw0_1=>?_
  simp (disch:=first | assumption | exact .symm ‹_› | omega) only [hF3,hF5,Int.reduceBEq,↓ZD,ZW,simprocAttr]
  refine new_2 fun b6 he6_0 he6_1 hb6 hF6=>?_
  simp (disch:=first | assumption | exact .symm ‹_› | omega) only [hF3,hF6,Int.reduceBEq,↓ZD,ZW,simprocAttr]
  refine wr_101 (put1 _ b b6 9 (s++([64,105,100,40]++((quote id)++[41,32]))) ([112,101,114,109,105,116,40]) _ (by simp [rdObj,hF6,lk]) (by (try simp only [List.length_append,List.length_cons,List.length_nil]);omega)) hpw0 hb6 hdw0_1 fun Hw1 hpw1 hdw1_0 hdw1_1=>?_
  simp (disch:=first | assumption | exact .symm ‹_› | omega) only [hF3,hF6,Int.reduceBEq,↓ZD,ZW,simprocAttr]
  refine wr_01 (scope_wr _ (hM.mono le_up) b (s++([64,105,100,40]++((quote id)++[41,32]))++[112,101,114,109,105,116,40]) (false) (sp.mono le_up) prN (by omega) (by decide) (by (try simp only [List.length_append,List.length_cons,List.length_nil]);omega)) hpw1 hdw1_1 fun Hw2 hpw2 hdw2_0=>?_
  simp (disch:=first | assumption | exact .symm ‹_› | omega) only [hF3,hF6,Int.reduceBEq,↓ZD,ZW,simprocAttr]
  refine new_1 fun b7 he7_0 hb7 hF7=>?_
  simp (disch:=first | assumption | exact .symm ‹_› | omega) only [hF3,hF7,Int.reduceBEq,↓ZD,ZW,simprocAttr]
  refine wr_11 (put1 _ b b7 9 (s++([64,105,100,40]++((quote id)++[41,32]))++[112,101,114,109,105,116,40]++scopeT p prN) ([44,32]) _ (by simp [rdObj,hF7,lk]) (by (try simp only [List.length_append,List.length_cons,List.length_nil]);omega)) hpw2 hb7 hdw2_0 fun Hw3 hpw3 hdw3_0 hdw3_1=>?_
  simp (disch:=first | assumption | exact .symm ‹_› | omega) only [hF3,hF7,Int.reduceBEq,↓ZD,ZW,simprocAttr]
  refine wr_01 (scope_wr _ (hM.mono le_up) b (s++([64,105,100,40]++((quote id)++[41,32]))++[112,101,114,109,105,116,40]++scopeT p prN++[44,32]) (false||!scopeOk p prN) (sa.mono le_up) actN (by omega) (by decide) (by (try simp only [List.length_append,List.length_cons,List.length_nil]);omega)) hpw3 hdw3_1 fun Hw4 hpw4 hdw4_0=>?_
  simp (disch:=first | assumption | exact .symm ‹_› | omega) only [hF3,hF7,Int.reduceBEq,↓ZD,ZW,simprocAttr]
  refine new_1 fun b8 he8_0 hb8 hF8=>?_
  simp (disch:=first | assumption | exact .symm ‹_› | omega) only [hF3,hF8,Int.reduceBEq,↓ZD,ZW,simprocAttr]
  refine wr_11 (put1 _ b b8 9 (s++([64,105,100,40]++((quote id)++[41,32]))++[112,101,114,109,105,116,40]++scopeT p prN++[44,32]++scopeT a actN) ([44,32]) _ (by simp [rdObj,hF8,lk]) (by (try simp only [List.length_append,List.length_cons,List.length_nil]);omega)) hpw4 hb8 hdw4_0 fun Hw5 hpw5 hdw5_0 hdw5_1=>?_
  simp (disch:=first | assumption | exact .symm ‹_› | omega) only [hF3,hF8,Int.reduceBEq,↓ZD,ZW,simprocAttr]
  refine wr_01 (scope_wr _ (hM.mono le_up) b (s++([64,105,100,40]++((quote id)++[41,32]))++[112,101,114,109,105,116,40]++scopeT p prN++[44,32]++scopeT a actN++[44,32]) (false||!scopeOk p prN||!scopeOk a actN) (sr.mono le_up) reN (by omega) (by decide) (by (try simp only [List.length_append,List.length_cons,List.length_nil]);omega)) hpw5 hdw5_1 fun Hw6 hpw6 hdw6_0=>?_
  simp (disch:=first | assumption | exact .symm ‹_› | omega) only [hF3,hF8,Int.reduceBEq,↓ZD,ZW,simprocAttr]
  refine new_1 fun b9 he9_0 hb9 hF9=>?_
  simp (disch:=first | assumption | exact .symm ‹_› | omega) only [hF3,hF9,Int.reduceBEq,↓ZD,ZW,simprocAttr]
  refine wr_11 (put1 _ b b9 9 (s++([64,105,100,40]++((quote id)++[41,32]))++[112,101,114,109,105,116,40]++scopeT p prN++[44,32]++scopeT a actN++[44,32]++scopeT r reN) ([41]) _ (by simp [rdObj,hF9,lk]) (by (try simp only [List.length_append,List.length_cons,List.length_nil]);omega)) hpw6 hb9 hdw6_0 fun Hw7 hpw7 hdw7_0 hdw7_1=>?_
  simp (disch:=first | assumption | exact .symm ‹_› | omega) only [hF3,hF9,Int.reduceBEq,↓ZD,ZW,simprocAttr]
  have hq3:=hpw7.cast (s':=s++HD) (bad':=!OK) (by rw [hH];simp) (by rw [hO];cases scopeOk p prN <;> cases scopeOk a actN <;> cases scopeOk r reN <;> rfl)
  have hq4:=hq3
  obtain ⟨pp,vv,Ho,hpp,ho,hdo,hFb,rfl⟩:=hq4
  have hbb:=hdw7_1 _ List.mem_cons_self
  have hbx:=hdw7_0 _ List.mem_cons_self
  simp only at hbb hbx
  have hhd:=hhd _ rfl
  cases hOK:OK with
  | false=>
   simp (disch:=first | assumption | exact .symm ‹_› | omega) only [hF3,hFb,hOK,Bool.not_false,Int.reduceBEq,↓ZD,ZW,simprocAttr]
   have hE1:E=1:=by rw [hE,hOK];rfl
   exact ⟨by rw [hE1],[],by simp,fun h=>by rw [hE1] at h;cases h⟩
  | true=>
   rw [hOK] at hq3 hE hdw7_0 hdw7_1
   simp (disch:=first | assumption | exact .symm ‹_› | omega) only [hF3,hFb,hOK,Bool.not_true,Int.reduceBEq,↓ZD,ZW,simprocAttr]
   refine LoopL.inv (α:=Nat×Hp) (fun u=>u.1≤conds.length∧(∀ c∈conds.take u.1,(ptx c.2).2=0)∧Pst F b (s++HD++condsT (conds.take u.1)) false u.2)
    (fun u=>[(0,some (.pointer (some ⟨b,0,none⟩))),(49,some (.slice ac conds.length cc0)),(50,some (.int .i64 conds.length)),(51,some (.int .i64 u.1))])
    (fun u=>u.2) (fun u=>conds.length - u.1) (0,_) ⟨Nat.zero_le _,by simp,by simpa [condsT] using hq3⟩ (by (simp (disch:=first | assumption | exact .symm ‹_› | omega) only [↓ZD,ZW,simprocAttr];try trivial)) ?_ ?_
   ·exact HLe_pre2 hq3.lk hdw7_0 hdw7_1
   rintro ⟨i,H⟩ ⟨hi,hz,hpi⟩
   simp only at hi hz hpi ⊢
   by_cases hlt:i < conds.length
   ·have hd:decide ((i:Int) < (conds.length:Int))=true:=by simp;omega
    have gx:conds[i]?=some (conds.getD i (false,nilX)):=getDs _ hlt
    generalize conds.getD i (false,nilX)=c at gx
    have hcm:=sumC_mem (List.mem_of_getElem? gx)
    have hle:=condsT_take conds (i+1)
    have e9:condsT (conds.take (i+1))=condsT (conds.take i)++condTx c:=by rw [take_snoc gx,condsT_snoc]
    rw [e9,List.length_append] at hle
    have hpx:=pexpr_pure hM hS (hc2 i c gx) (by omega)
    obtain ⟨q1,q2,q3,q4,q5,q6,q7,q8,q9,q10,q11,q12,q13,q14,q15,q16,q17,q18,q19,q20,e1⟩:=(hc2 i c gx).form
    obtain ⟨ba,oa,rfl,hla⟩:=(hc1 i c gx).ldn
    rw [e1] at hpx hla
    have hsl:(s++HD++condsT (conds.take i)).length+(condTx c).length≤100000000000000:=by
     rw [List.length_append];omega
    generalize hS:s++HD++condsT (conds.take i)=S at hpi hsl
    simp (disch:=first | assumption | exact .symm ‹_› | omega) only [hd,Nat.mul_one,Int.reduceBEq,↓ZD,ZW,simprocAttr]
    refine conj.of (by omega) ?_
    simp (disch:=first | assumption | exact .symm ‹_› | omega) only [hd,Int.toNat_natCast,↓hla,Int.reduceBEq,↓ZD,ZW,simprocAttr]
    refine NewB.of fun b7 hb7 hF7=>?_
    have hu:∀ o,upd H b7 o=H:=fun o=>upd_new hb7
    simp (disch:=first | assumption | exact .symm ‹_› | omega) only [hd,hF7,hu,Int.reduceBEq,↓ZD,ZW,simprocAttr]
    refine CallE.pure hpx ?_
    by_cases hz0:(ptx c.2).2=0
    ·have hnz:((ptx c.2).2 != 0)=false:=by simp [hz0]
     cases hwh:c.1 with
     | true=>
      have ect:condTx c=[32,119,104,101,110,32,123,32]++((ptx c.2).1++[32,125]):=by unfold condTx;rw [hwh];rfl
      rw [ect] at hsl
      simp only [List.length_append,List.length_cons,List.length_nil] at hsl
      simp (disch:=first | assumption | exact .symm ‹_› | omega) only [hd,hF7,hu,hnz,hwh,Int.reduceBEq,↓ZD,ZW,simprocAttr]
      refine new_1 fun b10 he10_0 hb10 hF10=>?_
      simp (disch:=first | assumption | exact .symm ‹_› | omega) only [hd,hF7,hu,hnz,hwh,hF10,Int.reduceBEq,↓ZD,ZW,simprocAttr]
      refine wr_11 (put3 _ b b10 9 (S) ([32,119,104,101,110,32,123,32]) ((ptx c.2).1) ([32,125]) _ (by simp [rdObj,hF10,lk]) (by (try simp only [List.length_append,List.length_cons,List.length_nil]);omega)) hpi hb10 hb7 fun Hw8 hpw8 hdw8_0 hdw8_1=>?_
      simp (disch:=first | assumption | exact .symm ‹_› | omega) only [hd,hF7,hu,hnz,hwh,hF10,Int.reduceBEq,↓ZD,ZW,simprocAttr]
      refine invK.on (i+1,Hw8) ⟨by show i+1≤_;omega,?_,hpw8.cast (by rw [e9,ect,← hS];simp) rfl⟩ (by show _ - (i+1) < _ - i;omega) ?_ (HLe_pre2 hpw8.lk hdw8_0 hdw8_1)
      ·intro c2 hc2
       rw [take_snoc gx] at hc2
       rcases List.mem_append.1 hc2 with h | h
       ·exact hz c2 h
       ·rw [List.mem_singleton.1 h];exact hz0
      ·simp only [Le_nil,Le_cons];simp (disch:=first | assumption | exact .symm ‹_› | omega) only [↓ZD,ZW,simprocAttr];first | done | trivial | rfl
     | false=>
      have ect:condTx c=[32,117,110,108,101,115,115,32,123,32]++((ptx c.2).1++[32,125]):=by unfold condTx;rw [hwh];rfl
      rw [ect] at hsl
      simp only [List.length_append,List.length_cons,List.length_nil] at hsl
      simp (disch:=first | assumption | exact .symm ‹_› | omega) only [hd,hF7,hu,hnz,hwh,Int.reduceBEq,↓ZD,ZW,simprocAttr]
      refine new_1 fun b10 he10_0 hb10 hF10=>?_
      simp (disch:=first | assumption | exact .symm ‹_› | omega) only [hd,hF7,hu,hnz,hwh,hF10,Int.reduceBEq,↓ZD,ZW,simprocAttr]
      refine wr_11 (put3 _ b b10 9 (S) ([32,117,110,108,101,115,115,32,123,32]) ((ptx c.2).1) ([32,125]) _ (by simp [rdObj,hF10,lk]) (by (try simp only [List.length_append,List.length_cons,List.length_nil]);omega)) hpi hb10 hb7 fun Hw8 hpw8 hdw8_0 hdw8_1=>?_
      simp (disch:=first | assumption | exact .symm ‹_› | omega) only [hd,hF7,hu,hnz,hwh,hF10,Int.reduceBEq,↓ZD,ZW,simprocAttr]
      refine invK.on (i+1,Hw8) ⟨by show i+1≤_;omega,?_,hpw8.cast (by rw [e9,ect,← hS];simp) rfl⟩ (by show _ - (i+1) < _ - i;omega) ?_ (HLe_pre2 hpw8.lk hdw8_0 hdw8_1)
      ·intro c2 hc2
       rw [take_snoc gx] at hc2
       rcases List.mem_append.1 hc2 with h | h
       ·exact hz c2 h
       ·rw [List.mem_singleton.1 h];exact hz0
      ·simp only [Le_nil,Le_cons];simp (disch:=first | assumption | exact .symm ‹_› | omega) only [↓ZD,ZW,simprocAttr];first | done | trivial | rfl
    ·have hnz:((ptx c.2).2 != 0)=true:=by simp [hz0]
     simp (disch:=first | assumption | exact .symm ‹_› | omega) only [hd,hF7,hu,hnz,Int.reduceBEq,↓ZD,ZW,simprocAttr]
     have hE1:E=(ptx c.2).2:=by rw [hE,if_pos rfl];exact condsE_at gx hz hz0
     exact ⟨by rw [hE1],[],by simp,fun h=>absurd (hE1.symm.trans h) hz0⟩
   ·have hd:decide ((i:Int) < (conds.length:Int))=false:=by simp;omega
    obtain rfl:i=conds.length:=by omega
    rw [List.take_length] at hpi hz
    simp (disch:=first | assumption | exact .symm ‹_› | omega) only [hd,Int.reduceBEq,↓ZD,ZW,simprocAttr]
    refine NewB.of fun b10 hb10 hF10=>?_
    simp (disch:=first | assumption | exact .symm ‹_› | omega) only [hd,hF10,Int.reduceBEq,↓ZD,ZW,simprocAttr]
    refine wr_1 (put1 _ b b10 9 ((s++HD++condsT conds)) ([59,10]) _ (by simp [rdObj,hF10,lk]) (by (try simp only [List.length_append,List.length_cons,List.length_nil]);omega)) hpi hb10 fun Hw8 hpw8 hdw8_0=>?_
    simp (disch:=first | assumption | exact .symm ‹_› | omega) only [hd,hF10,Int.reduceBEq,↓ZD,ZW,simprocAttr]
    have hE1:E=0:=by rw [hE,if_pos rfl];exact condsE_zero hz
    exact ⟨by rw [hE1],Hw8,by simp +contextual,fun _=>hpw8.cast (by rw [hfin];simp) rfl⟩
 | false=>
  simp (disch:=first | assumption | exact .symm ‹_› | omega) only [fu21,Int.reduceBEq,↓ZD,ZW,simprocAttr]
  refine NewB.of fun b3 hb3 hF3=>?_
  simp (disch:=first | assumption | exact .symm ‹_› | omega) only [hF3,Int.reduceBEq,↓ZD,ZW,simprocAttr]
  refine CallE.pure (quote_pure F id (by omega)) ?_
  simp (disch:=first | assumption | exact .symm ‹_› | omega) only [hF3,Int.reduceBEq,↓ZD,ZW,simprocAttr]
  refine new_1 fun b5 he5_0 hb5 hF5=>?_
  simp (disch:=first | assumption | exact .symm ‹_› | omega) only [hF3,hF5,Int.reduceBEq,↓ZD,ZW,simprocAttr]
  refine wr_11 (put3 _ b b5 9 (s) ([64,105,100,40]) ((quote id)) ([41,32]) _ (by simp [rdObj,hF5,lk]) (by (try simp only [List.length_append,List.length_cons,List.length_nil]);omega)) hp hb5 hb3 fun Hw0 hpw0 hdw0_0 hdw0_1=>?_
  simp (disch:=first | assumption | exact .symm ‹_› | omega) only [hF3,hF5,Int.reduceBEq,↓ZD,ZW,simprocAttr]
  refine new_2 fun b6 he6_0 he6_1 hb6 hF6=>?_
  simp (disch:=first | assumption | exact .symm ‹_› | omega) only [hF3,hF6,Int.reduceBEq,↓ZD,ZW,simprocAttr]
  refine wr_101 (put1 _ b b6 9 (s++([64,105,100,40]++((quote id)++[41,32]))) ([102,111,114,98,105,100,40]) _ (by simp [rdObj,hF6,lk]) (by (try simp only [List.length_append,List.length_cons,List.length_nil]);omega)) hpw0 hb6 hdw0_1 fun Hw1 hpw1 hdw1_0 hdw1_1=>?_
  simp (disch:=first | assumption | exact .symm ‹_› | omega) only [hF3,hF6,Int.reduceBEq,↓ZD,ZW,simprocAttr]
  refine wr_01 (scope_wr _ (hM.mono le_up) b (s++([64,105,100,40]++((quote id)++[41,32]))++[102,111,114,98,105,100,40]) (false) (sp.mono le_up) prN (by omega) (by decide) (by (try simp only [List.length_append,List.length_cons,List.length_nil]);omega)) hpw1 hdw1_1 fun Hw2 hpw2 hdw2_0=>?_
  simp (disch:=first | assumption | exact .symm ‹_› | omega) only [hF3,hF6,Int.reduceBEq,↓ZD,ZW,simprocAttr]
  refine new_1 fun b7 he7_0 hb7 hF7=>?_
  simp (disch:=first | assumption | exact .symm ‹_› | omega) only [hF3,hF7,Int.reduceBEq,↓ZD,ZW,simprocAttr]
  refine wr_11 (put1 _ b b7 9 (s++([64,105,100,40]++((quote id)++[41,32]))++[102,111,114,98,105,100,40]++scopeT p prN) ([44,32]) _ (by simp [rdObj,hF7,lk]) (by (try simp only [List.length_append,List.length_cons,List.length_nil]);omega)) hpw2 hb7 hdw2_0 fun Hw3 hpw3 hdw3_0 hdw3_1=>?_
  simp (disch:=first | assumption | exact .symm ‹_› | omega) only [hF3,hF7,Int.reduceBEq,↓ZD,ZW,simprocAttr]
  refine wr_01 (scope_wr _ (hM.mono le_up) b (s++([64,105,100,40]++((quote id)++[41,32]))++[102,111,114,98,105,100,40]++scopeT p prN++[44,32]) (false||!scopeOk p prN) (sa.mono le_up) actN (by omega) (by decide) (by (try simp only [List.length_append,List.length_cons,List.length_nil]);omega)) hpw3 hdw3_1 fun Hw4 hpw4 hdw4_0=>?_
  simp (disch:=first | assumption | exact .symm ‹_› | omega) only [hF3,hF7,Int.reduceBEq,↓ZD,ZW,simprocAttr]
  refine new_1 fun b8 he8_0 hb8 hF8=>?_
  simp (disch:=first | assumption | exact .symm ‹_› | omega) only [hF3,hF8,Int.reduceBEq,↓ZD,ZW,simprocAttr]
  refine wr_11 (put1 _ b b8 9 (s++([64,105,100,40]++((quote id)++[41,32]))++[102,111,114,98,105,100,40]++scopeT p prN++[44,32]++scopeT a actN) ([44,32]) _ (by simp [rdObj,hF8,lk]) (by (try simp only [List.length_append,List.length_cons,List.length_nil]);omega)) hpw4 hb8 hdw4_0 fun Hw5 hpw5 hdw5_0 hdw5_1=>?_
  simp (disch:=first | assumption | exact .symm ‹_› | omega) only [hF3,hF8,Int.reduceBEq,↓ZD,ZW,simprocAttr]
  refine wr_01 (scope_wr _ (hM.mono le_up) b (s++([64,105,100,40]++((quote id)++[41,32]))++[102,111,114,98,105,100,40]++scopeT p prN++[44,32]++scopeT a actN++[44,32]) (false||!scopeOk p prN||!scopeOk a actN) (sr.mono le_up) reN (by omega) (by decide) (by (try simp only [List.length_append,List.length_cons,List.length_nil]);omega)) hpw5 hdw5_1 fun Hw6 hpw6 hdw6_0=>?_
  simp (disch:=first | assumption | exact .symm ‹_› | omega) only [hF3,hF8,Int.reduceBEq,↓ZD,ZW,simprocAttr]
  refine new_1 fun b9 he9_0 hb9 hF9=>?_
  simp (disch:=first | assumption | exact .symm ‹_› | omega) only [hF3,hF9,Int.reduceBEq,↓ZD,ZW,simprocAttr]
  refine wr_11 (put1 _ b b9 9 (s++([64,105,100,40]++((quote id)++[41,32]))++[102,111,114,98,105,100,40]++scopeT p prN++[44,32]++scopeT a actN++[44,32]++scopeT r reN) ([41]) _ (by simp [rdObj,hF9,lk]) (by (try simp only [List.length_append,List.length_cons,List.length_nil]);omega)) hpw6 hb9 hdw6_0 fun Hw7 hpw7 hdw7_0 hdw7_1=>?_
  simp (disch:=first | assumption | exact .symm ‹_› | omega) only [hF3,hF9,Int.reduceBEq,↓ZD,ZW,simprocAttr]
  have hq3:=hpw7.cast (s':=s++HD) (bad':=!OK) (by rw [hH];simp) (by rw [hO];cases scopeOk p prN <;> cases scopeOk a actN <;> cases scopeOk r reN <;> rfl)
  have hq4:=hq3
  obtain ⟨pp,vv,Ho,hpp,ho,hdo,hFb,rfl⟩:=hq4
  have hbb:=hdw7_1 _ List.mem_cons_self
  have hbx:=hdw7_0 _ List.mem_cons_self
  simp only at hbb hbx
  have hhd:=hhd _ rfl
  cases hOK:OK with
  | false=>
   simp (disch:=first | assumption | exact .symm ‹_› | omega) only [hF3,hFb,hOK,Bool.not_false,Int.reduceBEq,↓ZD,ZW,simprocAttr]
   have hE1:E=1:=by rw [hE,hOK];rfl
   exact ⟨by rw [hE1],[],by simp,fun h=>by rw [hE1] at h;cases h⟩
  | true=>
   rw [hOK] at hq3 hE hdw7_0 hdw7_1
   simp (disch:=first | assumption | exact .symm ‹_› | omega) only [hF3,hFb,hOK,Bool.not_true,Int.reduceBEq,↓ZD,ZW,simprocAttr]
   refine LoopL.inv (α:=Nat×Hp) (fun u=>u.1≤conds.length∧(∀ c∈conds.take u.1,(ptx c.2).2=0)∧Pst F b (s++HD++condsT (conds.take u.1)) false u.2)
    (fun u=>[(0,some (.pointer (some ⟨b,0,none⟩))),(49,some (.slice ac conds.length cc0)),(50,some (.int .i64 conds.length)),(51,some (.int .i64 u.1))])
    (fun u=>u.2) (fun u=>conds.length - u.1) (0,_) ⟨Nat.zero_le _,by simp,by simpa [condsT] using hq3⟩ (by (simp (disch:=first | assumption | exact .symm ‹_› | omega) only [↓ZD,ZW,simprocAttr];try trivial)) ?_ ?_
   ·exact HLe_pre2 hq3.lk hdw7_0 hdw7_1
   rintro ⟨i,H⟩ ⟨hi,hz,hpi⟩
   simp only at hi hz hpi ⊢
   by_cases hlt:i < conds.length
   ·have hd:decide ((i:Int) < (conds.length:Int))=true:=by simp;omega
    have gx:conds[i]?=some (conds.getD i (false,nilX)):=getDs _ hlt
    generalize conds.getD i (false,nilX)=c at gx
    have hcm:=sumC_mem (List.mem_of_getElem? gx)
    have hle:=condsT_take conds (i+1)
    have e9:condsT (conds.take (i+1))=condsT (conds.take i)++condTx c:=by rw [take_snoc gx,condsT_snoc]
    rw [e9,List.length_append] at hle
    have hpx:=pexpr_pure hM hS (hc2 i c gx) (by omega)
    obtain ⟨q1,q2,q3,q4,q5,q6,q7,q8,q9,q10,q11,q12,q13,q14,q15,q16,q17,q18,q19,q20,e1⟩:=(hc2 i c gx).form
    obtain ⟨ba,oa,rfl,hla⟩:=(hc1 i c gx).ldn
    rw [e1] at hpx hla
    have hsl:(s++HD++condsT (conds.take i)).length+(condTx c).length≤100000000000000:=by
     rw [List.length_append];omega
    generalize hS:s++HD++condsT (conds.take i)=S at hpi hsl
    simp (disch:=first | assumption | exact .symm ‹_› | omega) only [hd,Nat.mul_one,Int.reduceBEq,↓ZD,ZW,simprocAttr]
    refine conj.of (by omega) ?_
    simp (disch:=first | assumption | exact .symm ‹_› | omega) only [hd,Int.toNat_natCast,↓hla,Int.reduceBEq,↓ZD,ZW,simprocAttr]
    refine NewB.of fun b7 hb7 hF7=>?_
    have hu:∀ o,upd H b7 o=H:=fun o=>upd_new hb7
    simp (disch:=first | assumption | exact .symm ‹_› | omega) only [hd,hF7,hu,Int.reduceBEq,↓ZD,ZW,simprocAttr]
    refine CallE.pure hpx ?_
    by_cases hz0:(ptx c.2).2=0
    ·have hnz:((ptx c.2).2 != 0)=false:=by simp [hz0]
     cases hwh:c.1 with
     | true=>
      have ect:condTx c=[32,119,104,101,110,32,123,32]++((ptx c.2).1++[32,125]):=by unfold condTx;rw [hwh];rfl
      rw [ect] at hsl
      simp only [List.length_append,List.length_cons,List.length_nil] at hsl
      simp (disch:=first | assumption | exact .symm ‹_› | omega) only [hd,hF7,hu,hnz,hwh,Int.reduceBEq,↓ZD,ZW,simprocAttr]
      refine new_1 fun b10 he10_0 hb10 hF10=>?_
      simp (disch:=first | assumption | exact .symm ‹_› | omega) only [hd,hF7,hu,hnz,hwh,hF10,Int.reduceBEq,↓ZD,ZW,simprocAttr]
      refine wr_11 (put3 _ b b10 9 (S) ([32,119,104,101,110,32,123,32]) ((ptx c.2).1) ([32,125]) _ (by simp [rdObj,hF10,lk]) (by (try simp only [List.length_append,List.length_cons,List.length_nil]);omega)) hpi hb10 hb7 fun Hw8 hpw8 hdw8_0 hdw8_1=>?_
      simp (disch:=first | assumption | exact .symm ‹_› | omega) only [hd,hF7,hu,hnz,hwh,hF10,Int.reduceBEq,↓ZD,ZW,simprocAttr]
      refine invK.on (i+1,Hw8) ⟨by show i+1≤_;omega,?_,hpw8.cast (by rw [e9,ect,← hS];simp) rfl⟩ (by show _ - (i+1) < _ - i;omega) ?_ (HLe_pre2 hpw8.lk hdw8_0 hdw8_1)
      ·intro c2 hc2
       rw [take_snoc gx] at hc2
       rcases List.mem_append.1 hc2 with h | h
       ·exact hz c2 h
       ·rw [List.mem_singleton.1 h];exact hz0
      ·simp only [Le_nil,Le_cons];simp (disch:=first | assumption | exact .symm ‹_› | omega) only [↓ZD,ZW,simprocAttr];first | done | trivial | rfl
     | false=>
      have ect:condTx c=[32,117,110,108,101,115,115,32,123,32]++((ptx c.2).1++[32,125]):=by unfold condTx;rw [hwh];rfl
      rw [ect] at hsl
      simp only [List.length_append,List.length_cons,List.length_nil] at hsl
      simp (disch:=first | assumption | exact .symm ‹_› | omega) only [hd,hF7,hu,hnz,hwh,Int.reduceBEq,↓ZD,ZW,simprocAttr]
      refine new_1 fun b10 he10_0 hb10 hF10=>?_
      simp (disch:=first | assumption | exact .symm ‹_› | omega) only [hd,hF7,hu,hnz,hwh,hF10,Int.reduceBEq,↓ZD,ZW,simprocAttr]
      refine wr_11 (put3 _ b b10 9 (S) ([32,117,110,108,101,115,115,32,123,32]) ((ptx c.2).1) ([32,125]) _ (by simp [rdObj,hF10,lk]) (by (try simp only [List.length_append,List.length_cons,List.length_nil]);omega)) hpi hb10 hb7 fun Hw8 hpw8 hdw8_0 hdw8_1=>?_
      simp (disch:=first | assumption | exact .symm ‹_› | omega) only [hd,hF7,hu,hnz,hwh,hF10,Int.reduceBEq,↓ZD,ZW,simprocAttr]
      refine invK.on (i+1,Hw8) ⟨by show i+1≤_;omega,?_,hpw8.cast (by rw [e9,ect,← hS];simp) rfl⟩ (by show _ - (i+1) < _ - i;omega) ?_ (HLe_pre2 hpw8.lk hdw8_0 hdw8_1)
      ·intro c2 hc2
       rw [take_snoc gx] at hc2
       rcases List.mem_append.1 hc2 with h | h
       ·exact hz c2 h
       ·rw [List.mem_singleton.1 h];exact hz0
      ·simp only [Le_nil,Le_cons];simp (disch:=first | assumption | exact .symm ‹_› | omega) only [↓ZD,ZW,simprocAttr];first | done | trivial | rfl
    ·have hnz:((ptx c.2).2 != 0)=true:=by simp [hz0]
     simp (disch:=first | assumption | exact .symm ‹_› | omega) only [hd,hF7,hu,hnz,Int.reduceBEq,↓ZD,ZW,simprocAttr]
     have hE1:E=(ptx c.2).2:=by rw [hE,if_pos rfl];exact condsE_at gx hz hz0
     exact ⟨by rw [hE1],[],by simp,fun h=>absurd (hE1.symm.trans h) hz0⟩
   ·have hd:decide ((i:Int) < (conds.length:Int))=false:=by simp;omega
    obtain rfl:i=conds.length:=by omega
    rw [List.take_length] at hpi hz
    simp (disch:=first | assumption | exact .symm ‹_› | omega) only [hd,Int.reduceBEq,↓ZD,ZW,simprocAttr]
    refine NewB.of fun b10 hb10 hF10=>?_
    simp (disch:=first | assumption | exact .symm ‹_› | omega) only [hd,hF10,Int.reduceBEq,↓ZD,ZW,simprocAttr]
    refine wr_1 (put1 _ b b10 9 ((s++HD++condsT conds)) ([59,10]) _ (by simp [rdObj,hF10,lk]) (by (try simp only [List.length_append,List.length_cons,List.length_nil]);omega)) hpi hb10 fun Hw8 hpw8 hdw8_0=>?_
    simp (disch:=first | assumption | exact .symm ‹_› | omega) only [hd,hF10,Int.reduceBEq,↓ZD,ZW,simprocAttr]
    have hE1:E=0:=by rw [hE,if_pos rfl];exact condsE_zero hz
    exact ⟨by rw [hE1],Hw8,by simp +contextual,fun _=>hpw8.cast (by rw [hfin];simp) rfl⟩
def RepPols (F:Base) (v:Value) (l:List Pol):Prop:=∃ a c,∃ g:Nat→List Value,v=.slice a l.length c∧l.length≤c∧l.length≤9223372036854775807∧(∀ (i:Nat) (x:Pol),l[i]?=some x→Cl F a 21 i (g i))∧∀ (i:Nat) (x:Pol),l[i]?=some x→RepPolT F (g i) x
theorem RepPols.mono {F F':Base} {v:Value} {l:List Pol} (h:RepPols F v l) (hF:∀ b o,F b=some o→F' b=some o):RepPols F' v l:=by
 obtain ⟨a,c,g,h1,h2,h3,h4,h5⟩:=h;exact ⟨a,c,g,h1,h2,h3,fun i x hi=>(h4 i x hi).mono hF,fun i x hi=>(h5 i x hi).mono hF⟩
def polsE:List Pol→Int
 | []=>0
 | x::l=>if polE x=0 then polsE l else polE x
def polsT:List Pol→Str
 | []=>[]
 | x::l=>polTx x++polsT l
def pols (l:List Pol):Str×Int:=if polsE l=0 then (polsT l,0) else ([],polsE l)
def wtQ (l:List Pol):Nat:=(l.map fun x=>wtP x+1).sum
def nilS:Scp:=⟨0,[],[],[],false,[]⟩
def nilP:Pol:=⟨[],false,nilS,nilS,nilS,[]⟩
theorem polsT_app:∀ l m,polsT (l++m)=polsT l++polsT m
 | [],m=>by simp [polsT]
 | x::l,m=>by rw [List.cons_append,polsT,polsT,polsT_app l m,List.append_assoc]
theorem polsT_snoc (x:Pol) (l:List Pol):polsT (l++[x])=polsT l++polTx x:=by rw [polsT_app];simp [polsT]
theorem polsT_take (l:List Pol) (i:Nat):(polsT (l.take i)).length≤(polsT l).length:=by
 have e:polsT l=polsT (l.take i)++polsT (l.drop i):=by rw [← polsT_app,List.take_append_drop]
 rw [e,List.length_append];omega
theorem polsE_zero:∀ {l:List Pol},(∀ c∈l,polE c=0)→polsE l=0
 | [],_=>rfl
 | c::l,h=>by rw [polsE,if_pos (h c List.mem_cons_self)];exact polsE_zero fun c hc=>h c (List.mem_cons_of_mem _ hc)
theorem polsE_at:∀ {l:List Pol} {i:Nat} {c:Pol},l[i]?=some c→(∀ c∈l.take i,polE c=0)→polE c≠0→polsE l=polE c
 | y::l,0,c,h,_,hn=>by simp only [List.getElem?_cons_zero,Option.some.injEq] at h;subst h;rw [polsE,if_neg hn]
 | y::l,i+1,c,h,hz,hn=>by
  rw [polsE,if_pos (hz y (by simp))]
  exact polsE_at (l:=l) (i:=i) (by simpa using h) (fun c hc=>hz c (by simp [hc])) hn
theorem wtQ_mem {x:Pol}:∀ {l:List Pol},x∈l→wtP x+1≤wtQ l
 | y::l,h=>by
  simp only [wtQ,List.map_cons,List.sum_cons]
  rcases List.mem_cons.1 h with rfl | h
  ·omega
  ·have:=wtQ_mem h;simp only [wtQ] at this;omega
theorem polTx_len {F:Base} {cs:List Value} {x:Pol} (h:RepPolT F cs x):(polTx x).length≤202+40 * wtP x:=by
 obtain ⟨vp,va,vr,vc,-,-,-,-,-,ac,cc0,gc,-,-,-,-,hc2⟩:=h
 have h1:=headT_len x
 have h2:=condsT_len (F:=F) (g:=gc) (l:=x.conds) fun c hc=>by
  obtain ⟨i,hi⟩:=List.getElem?_of_mem hc
  exact ⟨_,hc2 i c hi⟩
 have hP:wtP x=x.id.length+wtS x.p+wtS x.a+wtS x.r+(x.conds.map fun c=>wt c.2).sum:=rfl
 unfold polTx
 simp only [List.length_append,List.length_cons,List.length_nil]
 omega
theorem polsT_len {F:Base}:∀ {l:List Pol},(∀ x∈l,∃ cs,RepPolT F cs x)→(polsT l).length≤202 * wtQ l
 | [],_=>by simp [polsT]
 | x::l,h=>by
  obtain ⟨cs,hc⟩:=h x List.mem_cons_self
  have h1:=polTx_len hc
  have h3:=polsT_len (F:=F) (l:=l) fun c hc=>h c (List.mem_cons_of_mem _ hc)
  simp only [polsT,wtQ,List.length_append,List.map_cons,List.sum_cons] at h3 ⊢
  omega
set_option maxHeartbeats 4000000 in
theorem policies_pure {F:Base} (hM:HasM F) (hS:HasSigns F) {v:Value} {l:List Pol} (hx:RepPols F v l) (hw:wtQ l≤1048576) :
  PureV Tryz.prog F 11 #[v] (.tuple #[.string (bs (pols l).1),.int .i64 (pols l).2]):=by
 obtain ⟨al,cl,gl,rfl,hcl,hll,hc1,hc2⟩:=hx
 have hlen:=polsT_len (F:=F) (l:=l) fun c hc=>by
  obtain ⟨i,hi⟩:=List.getElem?_of_mem hc
  exact ⟨_,hc2 i c hi⟩
 refine pureV_of_svc mixed Tryz.func11 low11 (Nat.le_of_ble_eq_true rfl) (fun w0=>?_)
 simp (disch:=first | assumption | exact .symm ‹_› | omega) only [fu11,↓ZD,ZW,simprocAttr]
 refine NewB.of fun b hb hF=>?_
 simp (disch:=first | assumption | exact .symm ‹_› | omega) only [hF,↓ZD,ZW,simprocAttr]
 refine LoopL.inv (α:=Nat×Hp) (fun u=>u.1≤l.length∧(∀ c∈l.take u.1,polE c=0)∧Pst F b (polsT (l.take u.1)) false u.2)
  (fun u=>[(4,some (.pointer (some ⟨b,0,none⟩))),(10,some (.slice al l.length cl)),(11,some (.int .i64 l.length)),(12,some (.int .i64 u.1))])
  (fun u=>u.2) (fun u=>l.length - u.1) (0,_) ⟨Nat.zero_le _,by simp,⟨_,_,[],.inl rfl,.nil,by simp,hF,rfl⟩⟩ (by (simp (disch:=first | assumption | exact .symm ‹_› | omega) only [↓ZD,ZW,simprocAttr];try trivial)) (by simp [HLe,lk]) ?_
 rintro ⟨i,H⟩ ⟨hi,hz,hpi⟩
 simp only at hi hz hpi ⊢
 by_cases hlt:i < l.length
 ·have hd:decide ((i:Int) < (l.length:Int))=true:=by simp;omega
  have gx:l[i]?=some (l.getD i nilP):=getDs _ hlt
  generalize l.getD i nilP=x at gx
  have hcm:=wtQ_mem (List.mem_of_getElem? gx)
  have hle:=polsT_take l i
  have hrep:=hc2 i x gx
  obtain ⟨vp,va,vr,vc,e1,-,⟨a1,c1,rfl,-⟩,⟨a2,c2,rfl,-⟩,⟨a3,c3,rfl,-⟩,⟨ac,cc0,gc,rfl,-⟩⟩:=hc2 i x gx
  obtain ⟨ba,oa,rfl,hla⟩:=(hc1 i x gx).ldn
  rw [e1] at hla hrep
  simp only [pcells,scells,List.cons_append,List.nil_append] at hla hrep
  simp (disch:=first | assumption | exact .symm ‹_› | omega) only [hd,Nat.mul_one,↓ZD,ZW,simprocAttr]
  refine conj.of (by omega) ?_
  simp (disch:=first | assumption | exact .symm ‹_› | omega) only [hd,Int.toNat_natCast,↓hla,↓ZD,ZW,simprocAttr]
  refine NewB.of fun b7 hb7 hF7=>?_
  have hu:∀ o,upd H b7 o=H:=fun o=>upd_new hb7
  simp (disch:=first | assumption | exact .symm ‹_› | omega) only [hF7,hu,↓ZD,ZW,simprocAttr]
  refine CallE.does H [(b7,.cells #[Value.string (bs x.id),Value.bool x.permit,Value.int IntKind.i64 x.p.kind,Value.string (bs x.p.ty),Value.string (bs x.p.ut),Value.string (bs x.p.ui),Value.bool x.p.slot,Value.slice a1 x.p.list.length c1,Value.int IntKind.i64 x.a.kind,Value.string (bs x.a.ty),Value.string (bs x.a.ut),Value.string (bs x.a.ui),Value.bool x.a.slot,Value.slice a2 x.a.list.length c2,Value.int IntKind.i64 x.r.kind,Value.string (bs x.r.ty),Value.string (bs x.r.ut),Value.string (bs x.r.ui),Value.bool x.r.slot,Value.slice a3 x.r.list.length c3,Value.slice ac x.conds.length cc0] 51 (0,0))] (policy_does _ (hM.mono le_up) (hS.mono le_up) b (polsT (l.take i)) (hrep.mono le_up) (by omega) (by omega) H (hpi.up (by simpa using hb7))) (fun _ _ h=>h) (by simp +contextual) (by simp +contextual) (by simpa using hb7) ?_
  rintro _ H2 ⟨rfl,hp2⟩ h1 h2 h3
  simp only [List.forall_mem_cons,List.not_mem_nil,false_implies,implies_true,and_true] at h2
  by_cases hz0:polE x=0
  ·have hnz:(polE x != 0)=false:=by simp [hz0]
   have hp3:=(hp2 hz0).down
   simp (disch:=first | assumption | exact .symm ‹_› | omega) only [hnz,↓ZD,ZW,simprocAttr]
   refine invK.on (i+1,H2) ⟨by show i+1≤_;omega,?_,hp3.cast (by rw [take_snoc gx,polsT_snoc]) rfl⟩ (by show _ - (i+1) < _ - i;omega) ?_ (HLe_app hp3.lk h2)
   ·intro c2 hc2
    rw [take_snoc gx] at hc2
    rcases List.mem_append.1 hc2 with h | h
    ·exact hz c2 h
    ·rw [List.mem_singleton.1 h];exact hz0
   ·simp only [Le_nil,Le_cons];simp (disch:=first | assumption | exact .symm ‹_› | omega) only [↓ZD,ZW,simprocAttr];first | done | trivial | rfl
  ·have hnz:(polE x != 0)=true:=by simp [hz0]
   have hE:=polsE_at gx hz hz0
   simp (disch:=first | assumption | exact .symm ‹_› | omega) only [hnz,↓ZD,ZW,simprocAttr]
   simp [pols,hE,hz0]
 ·have hd:decide ((i:Int) < (l.length:Int))=false:=by simp;omega
  obtain rfl:i=l.length:=by omega
  rw [List.take_length] at hpi hz
  simp (disch:=first | assumption | exact .symm ‹_› | omega) only [hd,↓ZD,ZW,simprocAttr]
  have hp3:=hpi
  obtain ⟨p,v,Ho,hpp,ho,hd3,hFb,rfl⟩:=hpi
  refine CallE.does ((b,PrO p v false)::Ho) [] (string_does _ b (polsT l) false hp3) (fun _ _ h=>by unfold rdObj;rw [h]) (by simp +contextual) (by simp) (by simp) ?_
  rintro _ H3 rfl h1 h2 h3
  simp (disch:=first | assumption | exact .symm ‹_› | omega) only [↓ZD,ZW,simprocAttr]
  simp [pols,polsE_zero hz]
abbrev nilV:Value:=.slice none 0 0
def leaf (op:Int) (v:LV) (nm:Str):List Value:=xcells op v nilV nilV nm nilV nilV
theorem slsNil (F:Base):SlS F nilV []:=⟨none,0,rfl,Nat.le_refl _,by decide,fun i s h=>by simp at h,fun i s h=>by simp at h⟩
theorem leafX (F:Base) {op:Int} {v:LV} {nm:Str} (h1:I64 op) (h2:I64 v.kind) (h3:I64 v.n):RepX F (leaf op v nm) (.mk op v nm [] []):=
 .mk op v nilV nilV nm none 0 [] (fun _=>[]) nilV [] ⟨⟨_,_,_,rfl⟩,_,_,_,rfl⟩ h1 h2 h3 (by decide) (by decide) (fun i t h=>by simp at h) (fun i t h=>by simp at h) (slsNil F)
theorem nodeX (F:Base) {op:Int} {v:LV} {nm:Str} {b T:Nat} {kids:List Ex'} {g:Nat→List Value} {cs:List Value} (h1:I64 op) (h2:I64 v.kind) (h3:I64 v.n) (hl:kids.length≤1000) (hb:F b=some (.cells cs.toArray T (0,0)))
  (hc:∀ (i:Nat) (t:Ex'),kids[i]?=some t→i * 12+12≤cs.length∧(cs.drop (i * 12)).take 12=g i) (hr:∀ (i:Nat) (t:Ex'),kids[i]?=some t→RepX F (g i) t) :
  RepX F (xcells op v nilV nilV nm (.slice (some ⟨b,0,none⟩) kids.length kids.length) nilV) (.mk op v nm kids []):=
 .mk op v nilV nilV nm _ _ kids g nilV [] ⟨⟨_,_,_,rfl⟩,_,_,_,rfl⟩ h1 h2 h3 (by omega) (Nat.le_refl _) (fun i t h=>⟨b,0,_,_,_,rfl,hb,by simpa using (hc i t h).1,by simpa using (hc i t h).2⟩) hr (slsNil F)
def numL (n:Int):LV:=⟨2,false,n,[],[],[]⟩
theorem num_pure (F:Base) (n:Int):PureV Tryz.prog F 13 #[.int .i64 n] (.agg (leaf 1 (numL n) []).toArray):=by
 refine pureV_of_svc mixed Tryz.func13 low13 (Nat.le_of_ble_eq_true rfl) (fun w0=>?_)
 simp (disch:=first | assumption | exact .symm ‹_› | omega) only [fu13,↓ZD,ZW,simprocAttr]
 refine NewB.of fun b1 hb1 hF1=>?_
 simp (disch:=first | assumption | exact .symm ‹_› | omega) only [hF1,↓ZD,ZW,simprocAttr]
 rfl
def v0T:LV:=⟨0,false,0,[],[],[]⟩
def n1:Ex':=.mk 1 (numL 1) [] [] []
def n2:Ex':=.mk 1 (numL 2) [] [] []
def eqA:Ex':=.mk 8 v0T [] [n1,n2] []
def exA:Ex':=.mk 6 v0T [] [eqA] []
def trB:Ex':=.mk 1 ⟨1,true,0,[],[],[]⟩ [] [] []
def ntB:Ex':=.mk 6 v0T [] [trB] []
def exB:Ex':=.mk 18 v0T [120] [ntB] []
def exC:Ex':=.mk 1 (numL (-1)) [] [] []
def polA:Pol:=⟨[97],true,nilS,nilS,nilS,[]⟩
theorem sh1:shows 1=[49]:=by unfold shows;rw [if_neg (by decide),digs_lt (by decide)];rfl
theorem sh2:shows 2=[50]:=by unfold shows;rw [if_neg (by decide),digs_lt (by decide)];rfl
theorem exA_ptx:ptx exA=([33,40,49,32,61,61,32,50,41],0):=by
 simp [ptx,exA,eqA,n1,n2,v0T,numL,depX,depXL,okX,okL,arOk,kidsI,nodeOk,litOk,pt,ptL,nodeT,isTwo,litT,sh1,sh2,signT]
theorem exB_ptx:ptx exB=([40,33,116,114,117,101,41,46,120],0):=by
 have hn:nameB [120]=true:=by decide +kernel
 simp [ptx,exB,ntB,trB,v0T,depX,depXL,okX,okL,arOk,kidsI,nodeOk,litOk,pt,ptL,nodeT,isTwo,litT,own1,hn,Ex'.op]
theorem exC_ptx:ptx exC=([],1):=by
 simp [ptx,exC,numL,depX,depXL,okX,okL,arOk,kidsI,nodeOk,litOk]
theorem polA_pols:pols [polA]=([64,105,100,40,34,97,34,41,32,112,101,114,109,105,116,40,112,114,105,110,99,105,112,97,108,44,32,97,99,116,105,111,110,44,32,114,101,115,111,117,114,99,101,41,59,10],0):=by
 have hq:quote [97]=[34,97,34]:=by decide +kernel
 simp [pols,polsE,polE,polA,polOk,scopeOk,midOk,nilS,condsE,polsT,polTx,headT,hq,scopeT,midT,condsT,prN,actN,reN]
theorem i64s:∀ n:Int,-100≤n→n≤100→I64 n:=fun n h1 h2=>by unfold I64;omega
theorem nodeX1 (F:Base) {op:Int} {v:LV} {nm:Str} {b T:Nat} {x:Ex'} {cs:List Value} (h1:I64 op) (h2:I64 v.kind) (h3:I64 v.n) (hb:F b=some (.cells cs.toArray T (0,0))) (hc:cs.length=12) (hr:RepX F cs x) :
  RepX F (xcells op v nilV nilV nm (.slice (some ⟨b,0,none⟩) 1 1) nilV) (.mk op v nm [x] []):=
 nodeX F (kids:=[x]) (g:=fun _=>cs) h1 h2 h3 (by simp) hb (fun i t h=>by
  rcases i with _ | i
  ·exact ⟨by omega,by rw [Nat.zero_mul,List.drop_zero,List.take_of_length_le (by omega)]⟩
  ·simp at h) (fun i t h=>by
  rcases i with _ | i
  ·simp only [List.getElem?_cons_zero,Option.some.injEq] at h;subst h;exact hr
  ·simp at h)
theorem nodeX2 (F:Base) {op:Int} {v:LV} {nm:Str} {b T:Nat} {x y:Ex'} {cs ds:List Value} (h1:I64 op) (h2:I64 v.kind) (h3:I64 v.n) (hb:F b=some (.cells (cs++ds).toArray T (0,0))) (hc:cs.length=12) (hd:ds.length=12) (hr:RepX F cs x) (hs:RepX F ds y) :
  RepX F (xcells op v nilV nilV nm (.slice (some ⟨b,0,none⟩) 2 2) nilV) (.mk op v nm [x,y] []):=
 nodeX F (kids:=[x,y]) (g:=fun i=>if i=0 then cs else ds) h1 h2 h3 (by simp) hb (fun i t h=>by
  rcases i with _ | _ | i
  ·exact ⟨by simp;omega,by rw [Nat.zero_mul,List.drop_zero,List.take_append_of_le_length (by omega),List.take_of_length_le (by omega)];rfl⟩
  ·exact ⟨by simp;omega,by rw [show (0+1) * 12=cs.length by omega,List.drop_left,List.take_of_length_le (by omega)];rfl⟩
  ·simp at h) (fun i t h=>by
  rcases i with _ | _ | i
  ·simp only [List.getElem?_cons_zero,Option.some.injEq] at h;subst h;exact hr
  ·simp at h;subst h;exact hs
  ·simp at h)
theorem exA_rep (G:Base) {b1 b2:Nat} (h1:G b1=some (.cells (leaf 1 (numL 1) []++leaf 1 (numL 2) []).toArray 31 (0,0))) (h2:G b2=some (.cells (xcells 8 v0T nilV nilV [] (.slice (some ⟨b1,0,none⟩) 2 2) nilV).toArray 31 (0,0))) :
  RepX G (xcells 6 v0T nilV nilV [] (.slice (some ⟨b2,0,none⟩) 1 1) nilV) exA:=
 nodeX1 G (i64s _ (by decide) (by decide)) (i64s _ (by decide) (by decide)) (i64s _ (by decide) (by decide)) h2 rfl
  (nodeX2 G (i64s _ (by decide) (by decide)) (i64s _ (by decide) (by decide)) (i64s _ (by decide) (by decide)) h1 rfl rfl
   (leafX G (i64s _ (by decide) (by decide)) (i64s _ (by decide) (by decide)) (i64s _ (by decide) (by decide))) (leafX G (i64s _ (by decide) (by decide)) (i64s _ (by decide) (by decide)) (i64s _ (by decide) (by decide))))
theorem exB_rep (G:Base) {b1 b2:Nat} (h1:G b1=some (.cells (leaf 1 ⟨1,true,0,[],[],[]⟩ []).toArray 31 (0,0))) (h2:G b2=some (.cells (xcells 6 v0T nilV nilV [] (.slice (some ⟨b1,0,none⟩) 1 1) nilV).toArray 31 (0,0))) :
  RepX G (xcells 18 v0T nilV nilV [120] (.slice (some ⟨b2,0,none⟩) 1 1) nilV) exB:=
 nodeX1 G (i64s _ (by decide) (by decide)) (i64s _ (by decide) (by decide)) (i64s _ (by decide) (by decide)) h2 rfl
  (nodeX1 G (i64s _ (by decide) (by decide)) (i64s _ (by decide) (by decide)) (i64s _ (by decide) (by decide)) h1 rfl
   (leafX G (i64s _ (by decide) (by decide)) (i64s _ (by decide) (by decide)) (i64s _ (by decide) (by decide))))
theorem exC_rep (G:Base):RepX G (leaf 1 (numL (-1)) []) exC:=leafX G (i64s _ (by decide) (by decide)) (i64s _ (by decide) (by decide)) (i64s _ (by decide) (by decide))
theorem polA_rep (G:Base) {b1:Nat} (h1:G b1=some (.cells (pcells polA nilV nilV nilV nilV).toArray 51 (0,0))):RepPols G (.slice (some ⟨b1,0,none⟩) 1 1) [polA]:=by
 have hu:RepU G nilV nilS.list:=⟨none,0,rfl,Nat.le_refl _,by decide,fun i p h=>by simp [nilS] at h⟩
 have hk:I64 nilS.kind:=i64s _ (by decide) (by decide)
 refine ⟨_,1,fun _=>pcells polA nilV nilV nilV nilV,rfl,Nat.le_refl _,by decide,fun i x h=>?_,fun i x h=>?_⟩
 ·rcases i with _ | i
  ·exact ⟨b1,0,_,_,_,rfl,h1,by simp [pcells,scells],by simp [pcells,scells]⟩
  ·simp at h
 ·rcases i with _ | i
  ·simp only [List.getElem?_cons_zero,Option.some.injEq] at h
   subst h
   exact ⟨nilV,nilV,nilV,nilV,rfl,⟨hk,hk,hk⟩,hu,hu,hu,none,0,fun _=>[],rfl,Nat.le_refl _,by decide,fun i p h=>by simp [polA] at h,fun i p h=>by simp [polA] at h⟩
  ·simp at h
set_option maxHeartbeats 4000000 in
theorem awake_pure {F:Base} (hM:HasM F) (hS:HasSigns F):PureV Tryz.prog F 6 #[] (.bool true):=by
 refine pureV_of_svc (args:=[]) mixed Tryz.func6 low6 (Nat.le_of_ble_eq_true rfl) (fun w0=>?_)
 have k1:=num_pure F 1
 have k2:=num_pure F 2
 have k3:=fun F'=>num_pure F' (-1)
 simp only [leaf,xcells,numL,nilV] at k1 k2 k3
 simp (disch:=first | assumption | exact .symm ‹_› | omega) only [fu6,↓ZD,ZW,simprocAttr]
 refine CallE.pure k1 ?_
 simp (disch:=first | assumption | exact .symm ‹_› | omega) only [↓ZD,ZW,simprocAttr]
 refine CallE.pure k2 ?_
 simp (disch:=first | assumption | exact .symm ‹_› | omega) only [↓ZD,ZW,simprocAttr]
 refine NewB.of fun b1 hb1 hF1=>?_
 simp (disch:=first | assumption | exact .symm ‹_› | omega) only [hF1,↓ZD,ZW,simprocAttr]
 refine NewB.of fun b2 hb2 hF2=>?_
 simp only [List.forall_mem_cons,List.not_mem_nil,false_implies,implies_true,and_true] at hb2
 simp (disch:=first | assumption | exact .symm ‹_› | omega) only [hF1,hF2,↓ZD,ZW,simprocAttr]
 have pA:=pexpr_pure (hM.mono (le_up (H:=[(b2,.cells (xcells 8 v0T nilV nilV [] (.slice (some ⟨b1,0,none⟩) 2 2) nilV).toArray 31 (0,0)),(b1,.cells (leaf 1 (numL 1) []++leaf 1 (numL 2) []).toArray 31 (0,0))]))) (hS.mono le_up) (exA_rep _ (b1:=b1) (b2:=b2) (by simp [rdObj,hF1,lk,Ne.symm hb2]) (by simp [rdObj,hF2,lk])) (by decide +kernel)
 rw [exA_ptx] at pA
 refine CallE.pureH pA ?_
 simp (disch:=first | assumption | exact .symm ‹_› | omega) only [↓ZD,ZW,simprocAttr]
 refine NewB.of fun b3 hb3 hF3=>?_
 simp only [List.forall_mem_cons,List.not_mem_nil,false_implies,implies_true,and_true] at hb3
 obtain ⟨hb32,hb31⟩:=hb3
 simp (disch:=first | assumption | exact .symm ‹_› | omega) only [hF1,hF2,hF3,↓ZD,ZW,simprocAttr]
 refine NewB.of fun b4 hb4 hF4=>?_
 simp only [List.forall_mem_cons,List.not_mem_nil,false_implies,implies_true,and_true] at hb4
 obtain ⟨hb43,hb42,hb41⟩:=hb4
 simp (disch:=first | assumption | exact .symm ‹_› | omega) only [hF1,hF2,hF3,hF4,↓ZD,ZW,simprocAttr]
 have pB:=pexpr_pure (hM.mono (le_up (H:=[(b4,.cells (xcells 6 v0T nilV nilV [] (.slice (some ⟨b3,0,none⟩) 1 1) nilV).toArray 31 (0,0)),(b3,.cells (leaf 1 ⟨1,true,0,[],[],[]⟩ []).toArray 31 (0,0)),(b2,.cells (xcells 8 v0T nilV nilV [] (.slice (some ⟨b1,0,none⟩) 2 2) nilV).toArray 31 (0,0)),(b1,.cells (leaf 1 (numL 1) []++leaf 1 (numL 2) []).toArray 31 (0,0))]))) (hS.mono le_up) (exB_rep _ (b1:=b3) (b2:=b4) (by simp [rdObj,hF3,lk,Ne.symm hb43]) (by simp [rdObj,hF4,lk])) (by decide +kernel)
 rw [exB_ptx] at pB
 refine CallE.pureH pB ?_
 simp (disch:=first | assumption | exact .symm ‹_› | omega) only [↓ZD,ZW,simprocAttr]
 refine CallE.pureH (k3 _) ?_
 simp (disch:=first | assumption | exact .symm ‹_› | omega) only [↓ZD,ZW,simprocAttr]
 have pC:=pexpr_pure (hM.mono (le_up (H:=[(b4,.cells (xcells 6 v0T nilV nilV [] (.slice (some ⟨b3,0,none⟩) 1 1) nilV).toArray 31 (0,0)),(b3,.cells (leaf 1 ⟨1,true,0,[],[],[]⟩ []).toArray 31 (0,0)),(b2,.cells (xcells 8 v0T nilV nilV [] (.slice (some ⟨b1,0,none⟩) 2 2) nilV).toArray 31 (0,0)),(b1,.cells (leaf 1 (numL 1) []++leaf 1 (numL 2) []).toArray 31 (0,0))]))) (hS.mono le_up) (exC_rep _) (by decide +kernel)
 rw [exC_ptx] at pC
 refine CallE.pureH pC ?_
 simp (disch:=first | assumption | exact .symm ‹_› | omega) only [↓ZD,ZW,simprocAttr]
 refine NewB.of fun b5 hb5 hF5=>?_
 simp (disch:=first | assumption | exact .symm ‹_› | omega) only [hF5,↓ZD,ZW,simprocAttr]
 have pD:=policies_pure (hM.mono (le_up (H:=[(b5,.cells (pcells polA nilV nilV nilV nilV).toArray 51 (0,0)),(b4,.cells (xcells 6 v0T nilV nilV [] (.slice (some ⟨b3,0,none⟩) 1 1) nilV).toArray 31 (0,0)),(b3,.cells (leaf 1 ⟨1,true,0,[],[],[]⟩ []).toArray 31 (0,0)),(b2,.cells (xcells 8 v0T nilV nilV [] (.slice (some ⟨b1,0,none⟩) 2 2) nilV).toArray 31 (0,0)),(b1,.cells (leaf 1 (numL 1) []++leaf 1 (numL 2) []).toArray 31 (0,0))]))) (hS.mono le_up) (polA_rep _ (b1:=b5) (by simp [rdObj,hF5,lk])) (by decide +kernel)
 rw [polA_pols] at pD
 refine CallE.pureH pD ?_
 simp (disch:=first | assumption | exact .symm ‹_› | omega) only [↓ZD,ZW,simprocAttr]
end Go.Proofs.YtoelfmmfjebabaaGreatDoor
namespace Go.Proofs.YtoelfmmfjebabaaGreatDoor
open Go
set_option linter.unusedSimpArgs false
set_option linter.unusedVariables false
set_option maxRecDepth 20000
theorem hasMT_of {w:World} (hsh:w.ShapedOpen Tryz.prog):HasM (fun b=>w.heap[b]?):=by
 obtain ⟨m,h⟩:=Go.Proofs.cell_of_shapedOpen_int (g:=2) (zero:=#[.int .i64 0]) (t:=3) hsh (of_decide_eq_true (by kernel_rfl)) (by kernel_rfl) rfl (by kernel_rfl) (by kernel_rfl) Tryz.underlying3
 unfold World.cell? at h
 split at h
 ·rename_i c T fz hb
  exact ⟨c,T,fz,m,hb,by simpa using h⟩
 ·simp at h
def signsL:List (Int×Str):=[(4,[32,38,38,32]),(5,[32,124,124,32]),(8,[32,61,61,32]),(9,[32,60,32]),(10,[32,60,61,32]),(11,[32,43,32]),(12,[32,45,32]),(13,[32,42,32]),(15,[32,105,110,32])]
theorem sg_laid:Rows.laid_chamberlain_printer_signs (H:=Unit)=.map (signsL.map fun p=>(.int .i64 p.1,.lit (.string p.2))):=by kernel_rfl
theorem sg_global : Tryz.prog.globalNamed "chamberlain/printer.signs" = some 0 := by kernel_rfl
theorem sg_type:(Tryz.prog.globals[0]?).map (·.type)=some 89:=by kernel_rfl
theorem sg_mem {k:Int} {s:Str} (h:(k,s)∈signsL):isTwo k=true∧signT k=s:=by
 simp only [signsL,List.mem_cons,List.not_mem_nil,or_false,Prod.mk.injEq] at h
 rcases h with ⟨rfl,rfl⟩ | ⟨rfl,rfl⟩ | ⟨rfl,rfl⟩ | ⟨rfl,rfl⟩ | ⟨rfl,rfl⟩ | ⟨rfl,rfl⟩ | ⟨rfl,rfl⟩ | ⟨rfl,rfl⟩ | ⟨rfl,rfl⟩ <;> exact ⟨rfl,rfl⟩
theorem sg_in {k:Int} (h:isTwo k=true):(k,signT k)∈signsL:=by
 simp only [isTwo,Bool.or_eq_true,beq_iff_eq] at h
 rcases h with (((((((rfl | rfl) | rfl) | rfl) | rfl) | rfl) | rfl) | rfl) | rfl <;> decide
theorem signs_es {w:World} {es:Array MapEntry} {clock n:Nat} (hf:WideElems.Fit Tryz.prog 3 (WideElems.elemAt (H:=Unit) (fun _=>()) Tryz.prog w 0 (fun _=>true) false n 9) es clock)
  (hl:(es.toList.map (WideElems.rg Tryz.prog 3 (WideElems.elemAt (H:=Unit) (fun _=>()) Tryz.prog w 0 (fun _=>true) false n 9))).foldr DataW.insert []=signsL.map fun p=>(.int .i64 p.1,.lit (.string p.2))) :
  (∀ e∈es.toList,∃ k,isTwo k=true∧e.key=.int .i64 k∧e.val=.string (Eng.bs (signT k)))∧∀ k,isTwo k=true→∃ e∈es.toList,e.key=.int .i64 k:=by
 have hp:=WideShapes.sorted_perm (es.toList.map (WideElems.rg Tryz.prog 3 (WideElems.elemAt (H:=Unit) (fun _=>()) Tryz.prog w 0 (fun _=>true) false n 9)))
 rw [hl] at hp
 have key:∀ e∈es.toList,∀ k s,WideElems.rg Tryz.prog 3 (WideElems.elemAt (H:=Unit) (fun _=>()) Tryz.prog w 0 (fun _=>true) false n 9) e=(.int .i64 k,.lit (.string s))→e.key=.int .i64 k∧e.val=.string (Eng.bs s):=by
  intro e he k s h
  obtain ⟨y,hy⟩:=hf.reads e he
  rw [WideElems.rg_of hy] at h
  subst h
  have h1:=WideElems.rd_key hy
  obtain ⟨z,h2,h3⟩:=WideElems.rd_val hy
  constructor
  ·rw [keyOf_int Tryz.underlying3] at h1
   unfold mapKey at h1
   rw [Tryz.underlying3] at h1
   split at h1
   ·rename_i hA hB;cases hA
   ·rename_i q q' m hA hB
    simp only [Option.some.injEq,TypeDesc.int.injEq] at hA
    subst hA
    split at h1
    ·rename_i hq
     simp only [Option.some.injEq,Lit.int.injEq,true_and] at h1
     rw [hB,hq.1,h1]
    ·cases h1
   ·rename_i hA hB;cases hA
   ·cases h1
  ·unfold WideElems.elemAt at h2
   split at h2
   ·rename_i hfm
    obtain ⟨b,e0,e1,-⟩:=DataW.trod_string Tryz.underlying9 h2
    rw [e1] at h3
    simp only [DataW.lit.injEq,Lit.string.injEq] at h3
    cases hv:e.val with
    | agg cs=>rw [hv] at hfm;simp [Value.formed,Tryz.underlying9] at hfm
    | string v=>
     rw [hv] at e0
     simp only [Value.cells,List.cons.injEq,Value.string.injEq,and_true] at e0
     subst e0
     rw [h3]
     cases v;rfl
    | _=>rw [hv] at e0;simp [Value.cells] at e0
   ·cases h2
 refine ⟨fun e he=>?_,fun k hk=>?_⟩
 ·have h1:=hp.mem_iff.2 (List.mem_map_of_mem (f:=WideElems.rg Tryz.prog 3 (WideElems.elemAt (H:=Unit) (fun _=>()) Tryz.prog w 0 (fun _=>true) false n 9)) he)
  obtain ⟨p,hp1,hp2⟩:=List.mem_map.1 h1
  obtain ⟨q1,q2⟩:=key e he p.1 p.2 hp2.symm
  obtain ⟨r1,r2⟩:=sg_mem (k:=p.1) (s:=p.2) hp1
  exact ⟨p.1,r1,q1,by rw [r2];exact q2⟩
 ·have h1:=hp.mem_iff.1 (List.mem_map_of_mem (f:=fun p:Int×Str=>((.int .i64 p.1,.lit (.string p.2)):Lit×DataW Unit)) (sg_in hk))
  obtain ⟨e,he,h2⟩:=List.mem_map.1 h1
  exact ⟨e,he,(key e he _ _ h2).1⟩
theorem hasSigns_of {w : World} {a c : String × DataW Unit} (ha : a.2.handleName?.isNone = true) (hc : c.2.handleName?.isNone = true) (h : laidMetH Tryz.prog [a, ("chamberlain/printer.signs", Rows.laid_chamberlain_printer_signs), c] w) : HasSigns (fun b => w.heap[b]?) := by
 rw [MakeChecks.laidMetH_plain _ _ _ (by simp only [List.all_cons,List.all_nil,ha,hc];kernel_rfl)] at h
 obtain ⟨ps,⟨-,-,-,-,-,q,-,-,-,-,h,-⟩,-,-⟩:=h
 obtain ⟨g0,t0,cs0,f0,p0,q0,hg0,ht0,hv0,hd0,-,-⟩:=h
 obtain rfl:=Option.some.inj (sg_global.symm.trans hg0)
 obtain rfl:=Option.some.inj (sg_type.symm.trans ht0)
 rw [sg_laid] at hd0
 rcases WideElems.open_map Tryz.underlying89 hd0 with ⟨-,hx⟩ | ⟨b,es,clock,n,-,hcs,hb,-,hF,hx⟩
 ·cases hx
 ·simp only [Prod.mk.injEq,DataW.map.injEq] at hx
  obtain ⟨k1,k2⟩:=signs_es hF hx.1.symm
  simp only [World.var?,hg0,Option.bind_some] at hv0
  cases hbg:w.heap[(0:Nat)]? with
  | none=>rw [hbg] at hv0;cases hv0
  | some o=>
   rw [hbg] at hv0
   cases o with
   | cells cc T fz=>
    simp only [Option.some.injEq] at hv0
    subst hv0
    refine ⟨b,es,clock,T,fz,?_,hb,fun k=>?_⟩
    ·show w.heap[(0:Nat)]?=_
     rw [hbg]
     congr 2
     apply Array.toList_inj.1
     rw [hcs]
    ·rcases MapKept.findNow_spec (d:=.int .i64) (k:=.int .i64 k) rfl es.toList 0 (fun x hx=>by
      obtain ⟨m,-,hm,-⟩:=k1 x hx
      rw [hm];rfl) with ⟨h1,h2⟩ | ⟨j,e,h1,h2,h3⟩
     ·refine ⟨0,?_⟩
      rw [h1]
      cases hk:isTwo k with
      | false=>rfl
      | true=>
       obtain ⟨e,he,hke⟩:=k2 k hk
       exact absurd hke (h2 e he)
     ·obtain ⟨m,hm1,hm2,hm3⟩:=k1 e (List.mem_of_getElem? h2)
      rw [h3] at hm2
      simp only [Value.int.injEq,true_and] at hm2
      subst hm2
      exact ⟨_,by rw [h1,hm1,hm3];rfl⟩
   | _=>cases hv0
end Go.Proofs.YtoelfmmfjebabaaGreatDoor
