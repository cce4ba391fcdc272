/- Joined. -/
import Derived.Test.YtoelfmmfjebabaaGreatDoorJb
import Derived.Test.YtoelfmmfjebabaaGreatDoorEng17
set_option linter.unusedSectionVars false
namespace Go.Proofs.YtoelfmmfjebabaaGreatDoor
open Go Go.Eng
set_option maxHeartbeats 1000000
set_option linter.unusedSimpArgs false
set_option linter.unusedVariables false
set_option maxRecDepth 20000
abbrev RdO (l:Value) (p:St):Obj:=.cells #[l,.int .i64 p.p,.int .i64 p.deep,.int .i64 p.e,.int .i64 p.bad] 84 (0,0)
def HasW (F:Base) (ws:Ws) (l:Value):Prop:=∃ b cap sp T fz,l=.slice (some ⟨b,0,none⟩) ws.length cap∧F b=some (.cells (cellsW ws++sp).toArray T fz)∧ws.length≤cap∧cap≤9223372036854775807∧ws≠[]
theorem HasW.mono {F F':Base} {ws:Ws} {l:Value} (h:HasW F ws l) (hF:∀ b o,F b=some o→F' b=some o):HasW F' ws l:=by
 obtain ⟨b,cap,sp,T,fz,h1,h2,h3⟩:=h
 exact ⟨b,cap,sp,T,fz,h1,hF _ _ h2,h3⟩
theorem HasW.len {F:Base} {ws:Ws} {l:Value} (h:HasW F ws l):ws.length≤9223372036854775807:=by
 obtain ⟨b,cap,sp,T,fz,h1,h2,h3,h4,h5⟩:=h;omega
theorem wds_at {ws:Ws} {sp:List Value} {T:Nat} {fz:Nat×Nat} {i:Nat} (hi:i < ws.length):cellsO (some (.cells (cellsW ws++sp).toArray T fz)) (i * 4) 4=some (wdV (ws.getD i ((0,[],0),0)).1 (ws.getD i ((0,[],0),0)).2):=by
 have h:=cellsW_at (sp:=sp) (k:=0) (d:=((0,[],0),0)) hi
 rw [cellsO_of,if_pos (by rw [List.length_append,cellsW_len];omega),show i * 4=i * 4+0 from rfl,h]
 rfl
theorem wds_at3 {ws:Ws} {sp:List Value} {T:Nat} {fz:Nat×Nat} {i:Nat} (hi:i < ws.length):cellsO (some (.cells (cellsW ws++sp).toArray T fz)) (i * 4+3) 1=some [.int .i64 (ws.getD i ((0,[],0),0)).2]:=by
 have h:=cellsW_at (sp:=sp) (k:=3) (d:=((0,[],0),0)) hi
 rw [cellsO_of,if_pos (by rw [List.length_append,cellsW_len];omega),h]
 rfl
theorem wds_at1 {ws:Ws} {sp:List Value} {T:Nat} {fz:Nat×Nat} {i:Nat} (hi:i < ws.length):cellsO (some (.cells (cellsW ws++sp).toArray T fz)) (i * 4+1) 1=some [.string (bs (ws.getD i ((0,[],0),0)).1.2.1)]:=by
 have h:=cellsW_at (sp:=sp) (k:=1) (d:=((0,[],0),0)) hi
 rw [cellsO_of,if_pos (by rw [List.length_append,cellsW_len];omega),h]
 rfl
theorem wds_at0 {ws:Ws} {sp:List Value} {T:Nat} {fz:Nat×Nat} {i:Nat} (hi:i < ws.length):cellsO (some (.cells (cellsW ws++sp).toArray T fz)) (i * 4) 1=some [.int .i64 (ws.getD i ((0,[],0),0)).1.1]:=by
 have h:=cellsW_at (sp:=sp) (k:=0) (d:=((0,[],0),0)) hi
 rw [cellsO_of,if_pos (by rw [List.length_append,cellsW_len];omega),show i * 4=i * 4+0 from rfl,h]
 rfl
theorem wdAt_in {ws:Ws} {i:Nat} (h:i < ws.length):wdAt ws (i:Int)=ws.getD i ((0,[],0),0):=by
 unfold wdAt;rw [if_pos (by omega)];rfl
theorem wdAt_out {ws:Ws} {p:Int} (h:¬ (0≤p∧p < ws.length)):wdAt ws p=((0,[],0),(ws.getD (ws.length - 1) ((0,[],0),0)).2):=by
 unfold wdAt;rw [if_neg h,List.getLast?_eq_getElem?,List.getD_eq_getElem?_getD]
theorem wf0 {w:Wd} {a:Nat}:(wdV w a).toArray.getD 0 undef=.int .i64 w.1:=rfl
theorem wf1 {w:Wd} {a:Nat}:(wdV w a).toArray.getD 1 undef=.string (bs w.2.1):=rfl
theorem wf3 {w:Wd} {a:Nat}:(wdV w a).toArray.getD 3 undef=.int .i64 a:=rfl
theorem wsz {w:Wd} {a:Nat}:(wdV w a).length=4:=rfl
theorem word_pure (F:Base) {ws:Ws} {l:Value} (hW:HasW F ws l) {b:Nat} {p:St} (hb:F b=some (RdO l p)):PureV Tryz.prog F 95 #[.pointer (some ⟨b,0,none⟩)] (.agg (wdV (wdAt ws p.p).1 (wdAt ws p.p).2).toArray):=by
 obtain ⟨bw,cap,sp,T,fz,rfl,hFw,hc,hm,hne⟩:=hW
 have hpos:0 < ws.length:=List.length_pos_iff.2 hne
 refine pureV_of_svc (args:=[.pointer (some ⟨b,0,none⟩)]) mixed Tryz.func95 low95 (Nat.le_of_ble_eq_true rfl) (fun w0=>?_)
 simp only [fu95,↓ZD,ZW,simprocAttr]
 refine NewB.of fun b2 hb2 hF2=>?_
 simp (disch:=first | assumption | exact .symm ‹_› | omega) only [hb,hF2,↓ZD,ZW,simprocAttr]
 by_cases h:0≤p.p∧p.p < ws.length
 ·obtain ⟨i,hi⟩:∃ i:Nat,p.p=i:=⟨p.p.toNat,by omega⟩
  have hlt:i < ws.length:=by omega
  have h1:decide ((0:Int)≤(i:Int))=true:=by simp
  have h2:decide ((i:Int) < (ws.length:Int))=true:=by simp;omega
  have hld:=wds_at (sp:=sp) (T:=T) (fz:=fz) hlt
  rw [hi,wdAt_in hlt]
  simp (disch:=first | assumption | exact .symm ‹_› | omega) only [hb,hF2,h1,h2,hFw,hld,Int.toNat_natCast,wdV,↓ZD,ZW,simprocAttr]
  refine conj.of (by omega) ?_
  simp (disch:=first | assumption | exact .symm ‹_› | omega) only [hb,hF2,h1,h2,hFw,hld,Int.toNat_natCast,wdV,↓ZD,ZW,simprocAttr]
 ·have h1:(decide (0≤p.p)&&decide (p.p < (ws.length:Int)))=false:=by
   rw [Bool.and_eq_false_iff,decide_eq_false_iff_not,decide_eq_false_iff_not];omega
  have h2:decide ((0:Int) < (ws.length:Int))=true:=by simp;omega
  have h3:((ws.length:Int) - 1).toNat=ws.length - 1:=by omega
  have hld:=wds_at3 (ws:=ws) (sp:=sp) (T:=T) (fz:=fz) (i:=ws.length - 1) (by omega)
  rw [wdAt_out h]
  simp (disch:=first | assumption | exact .symm ‹_› | omega) only [hb,hF2,h1,h2,h3,hFw,hld,Int.toNat_natCast,wdV,↓ZD,ZW,simprocAttr]
  refine conj.of (by omega) ?_
  simp (disch:=first | assumption | exact .symm ‹_› | omega) only [hb,hF2,h1,h2,h3,hFw,hld,Int.toNat_natCast,wdV,↓ZD,ZW,simprocAttr]
theorem is_pure (F:Base) {ws:Ws} {l:Value} (hW:HasW F ws l) {b:Nat} {p:St} (hb:F b=some (RdO l p)) (t:Str):PureV Tryz.prog F 96 #[.pointer (some ⟨b,0,none⟩),.string (bs t)] (.bool (isS ws p t)):=by
 refine pureV_of_svc (args:=[.pointer (some ⟨b,0,none⟩),.string (bs t)]) mixed Tryz.func96 low96 (Nat.le_of_ble_eq_true rfl) (fun w0=>?_)
 simp only [fu96,↓ZD,ZW,simprocAttr]
 refine CallE.pure (word_pure F hW hb) ?_
 simp only [hb,wdV,↓ZD,ZW,simprocAttr]
 refine NewB.of fun b2 hb2 hF2=>?_
 simp (disch:=first | assumption | exact .symm ‹_› | omega) only [hb,hF2,wdV,↓ZD,ZW,simprocAttr]
 simp [isS,wk,wtx]
def Rd1 (F:Base) (l:Value) (f:Nat) (args:List Value) (b:Nat) (p:St) (r:Value) (p':St):Prop:=Does Tryz.prog F f (.pointer (some ⟨b,0,none⟩)::args).toArray [(b,RdO l p)] (fun v H'=>v=r∧H'=[(b,RdO l p')])
theorem CallE.rd1 {X:List Nat} {F:Base} {w0:World} {l:Value} {f:Nat} {args:List Value} {b:Nat} {p p':St} {r:Value} {H:Hp} {K:Value→Hp→Prop} (Hl:Hp) (h:Rd1 (rdObj F Hl) l f args b p r p')
  (hb:(b,RdO l p)∈H) (hl:∀ e∈Hl,e∈H) (nl:∀ e∈Hl,e.1≠b) (hk:K r ((b,RdO l p')::Hl)):@CallE Tryz.prog X F w0 f (.pointer (some ⟨b,0,none⟩)::args).toArray H ⟨K⟩:=
 CallG.shr (K:=fun v H'=>v=r∧H'=Hl++[(b,RdO l p')]) (@CallE.does Tryz.prog X F (rdObj F Hl) w0 f _ H _ _ [(b,RdO l p)] Hl h (fun _ _ h=>h) (by simpa using hb) hl (by simpa using fun a o h=>(nl (a,o) h).symm) (fun v H' ⟨h1,h2⟩ _ _ _=>⟨h1,by rw [h2]⟩))
  fun v H' ⟨h1,h2⟩=>⟨(b,RdO l p')::Hl,by rw [h2];simp +contextual,by rw [h1];exact hk⟩
theorem fail_rd (F:Base) {ws:Ws} {l:Value} (hW:HasW F ws l) {b:Nat} (hFb:F b=none) (p:St) (e:Int):Rd1 F l 82 [.int .i64 e] b p (.tuple #[]) (failS ws p e):=by
 have hb:rdObj F [(b,RdO l p)] b=some (RdO l p):=by simp [rdObj,hFb,lk]
 refine does_of_svc (args:=[.pointer (some ⟨b,0,none⟩),.int .i64 e]) mixed Tryz.func82 low82 (Nat.le_of_ble_eq_true rfl) (fun w0 hw0=>?_)
 simp only [fu82,hFb,↓ZD,ZW,simprocAttr]
 unfold failS
 by_cases h:p.e=0
 ·have hd:(p.e==0)=true:=by simpa using h
  rw [if_pos h]
  simp only [hd,hFb,↓ZD,ZW,simprocAttr]
  refine CallE.pureH (word_pure _ (hW.mono le_up) hb) ?_
  simp only [hFb,wf3,wsz,↓ZD,ZW,simprocAttr]
 ·have hd:(p.e==0)=false:=by simpa using h
  rw [if_neg h]
  simp only [hd,hFb,↓ZD,ZW,simprocAttr]
theorem skip_rd (F:Base) {ws:Ws} {l:Value} (hW:HasW F ws l) {b:Nat} (hFb:F b=none) (p:St) (t:Str):Rd1 F l 84 [.string (bs t)] b p (.bool (isS ws p t)) (if isS ws p t then adv p else p):=by
 have hb:rdObj F [(b,RdO l p)] b=some (RdO l p):=by simp [rdObj,hFb,lk]
 obtain ⟨bw,cap,sp,T,fz,rfl,hFw,hc,hm,hne⟩:=id hW
 refine does_of_svc (args:=[.pointer (some ⟨b,0,none⟩),.string (bs t)]) mixed Tryz.func84 low84 (Nat.le_of_ble_eq_true rfl) (fun w0 hw0=>?_)
 simp only [fu84,hFb,↓ZD,ZW,simprocAttr]
 refine CallE.pureH (is_pure _ (hW.mono le_up) hb t) ?_
 simp only [hFb,↓ZD,ZW,simprocAttr]
 cases h:isS ws p t with
 | false=>simp only [hFb,h,↓ZD,ZW,simprocAttr]
 | true=>
  have h1:=isS_range h
  simp (disch:=first | assumption | exact .symm ‹_› | omega) only [hFb,h,adv,↓ZD,ZW,simprocAttr]
theorem must_rd (F:Base) {ws:Ws} {l:Value} (hW:HasW F ws l) {b:Nat} (hFb:F b=none) (p:St) (t:Str):Rd1 F l 86 [.string (bs t)] b p (.tuple #[]) (mustS ws p t):=by
 refine does_of_svc (args:=[.pointer (some ⟨b,0,none⟩),.string (bs t)]) mixed Tryz.func86 low86 (Nat.le_of_ble_eq_true rfl) (fun w0 hw0=>?_)
 simp only [fu86,hFb,↓ZD,ZW,simprocAttr]
 refine CallE.does [(b,RdO l p)] [] (skip_rd F hW hFb p t) (fun _ _ h=>by simp [rdObj,h]) (fun e h=>h) (fun e h=>by cases h) (fun e h=>by cases h) ?_
 rintro _ _ ⟨rfl,rfl⟩ - - -
 unfold mustS
 cases h:isS ws p t with
 | true=>simp only [hFb,h,↓ZD,ZW,simprocAttr]
 | false=>
  simp only [hFb,h,↓ZD,ZW,simprocAttr]
  refine CallE.does [(b,RdO l p)] [] (fail_rd F hW hFb p 10) (fun _ _ h=>by simp [rdObj,h]) (fun e h=>h) (fun e h=>by cases h) (fun e h=>by cases h) ?_
  rintro _ _ ⟨rfl,rfl⟩ - - -
  simp only [hFb,↓ZD,ZW,simprocAttr]
theorem take_rd (F:Base) {ws:Ws} {l:Value} (hW:HasW F ws l) {b:Nat} (hFb:F b=none) (p:St) (k:Int) (hk:k≠0):Rd1 F l 114 [.int .i64 k] b p (.string (bs (takeS ws p k).1)) (takeS ws p k).2:=by
 have hb:rdObj F [(b,RdO l p)] b=some (RdO l p):=by simp [rdObj,hFb,lk]
 obtain ⟨bw,cap,sp,T,fz,rfl,hFw,hc,hm,hne⟩:=id hW
 refine Does.shr (K:=fun v H'=>v=.string (bs (takeS ws p k).1)∧(b,RdO (.slice (some ⟨bw,0,none⟩) ws.length cap) (takeS ws p k).2)∈H') ?_ fun v H' ⟨h1,h2⟩=>⟨[_],by simpa using h2,h1,rfl⟩
 refine does_of_svc (args:=[.pointer (some ⟨b,0,none⟩),.int .i64 k]) mixed Tryz.func114 low114 (Nat.le_of_ble_eq_true rfl) (fun w0 hw0=>?_)
 simp only [fu114,hFb,↓ZD,ZW,simprocAttr]
 refine CallE.pureH (word_pure _ (hW.mono le_up) hb) ?_
 simp only [hFb,wdV,↓ZD,ZW,simprocAttr]
 refine NewB.of fun b2 hb2 hF2=>?_
 simp only [List.forall_mem_cons,List.not_mem_nil,false_implies,implies_true,and_true] at hb2
 simp only [hFb,hF2,wdV,↓ZD,ZW,simprocAttr]
 unfold takeS
 by_cases h:p.e=0∧wk ws p=k
 ·have h1:(p.e != 0)=false:=by simpa using h.1
  have h2:((((wdAt ws p.p).1.1:Nat):Int) != k)=false:=by simpa [wk] using h.2
  have hr:=in_range (ws:=ws) (p:=p.p) (by have:=h.2;unfold wk at this;omega)
  rw [if_pos h]
  simp (disch:=first | assumption | exact .symm ‹_› | omega) only [hFb,hF2,h1,h2,adv,↓ZD,ZW,simprocAttr]
  simp [wtx]
 ·have h1:(p.e != 0||(((wdAt ws p.p).1.1:Nat):Int) != k)=true:=by
   rw [Bool.or_eq_true,bne_iff_ne,bne_iff_ne]
   by_cases h3:p.e=0
   ·exact .inr fun h4=>h ⟨h3,h4⟩
   ·exact .inl h3
  rw [if_neg h]
  simp (disch:=first | assumption | exact .symm ‹_› | omega) only [hFb,hF2,h1,↓ZD,ZW,simprocAttr]
  refine CallE.does [(b,RdO (.slice (some ⟨bw,0,none⟩) ws.length cap) p)] [] (fail_rd F hW hFb p 10) (fun _ _ h=>by simp [rdObj,h]) (by simp) (fun e h=>by cases h) (fun e h=>by cases h) ?_
  rintro _ _ ⟨rfl,rfl⟩ - - -
  simp only [hFb,↓ZD,ZW,simprocAttr]
  simp
def WsOk (ws:Ws):Prop:=ws.length≤65537∧∀ w∈ws,w.1.2.1.length≤65536∧I64 w.1.2.2∧(w.1.1=1→∀ c∈w.1.2.1,c≠124)
theorem wdAt_ok {ws:Ws} (h:WsOk ws) (p:Int):(wdAt ws p).1.2.1.length≤65536∧I64 (wdAt ws p).1.2.2∧((wdAt ws p).1.1=1→∀ c∈(wdAt ws p).1.2.1,c≠124):=by
 by_cases hp:0≤p∧p < ws.length
 ·obtain ⟨i,rfl⟩:∃ i:Nat,p=i:=⟨p.toNat,by omega⟩
  have hi:i < ws.length:=by omega
  rw [wdAt_in hi,List.getD_eq_getElem?_getD,List.getElem?_eq_getElem hi]
  exact h.2 _ (List.getElem_mem hi)
 ·rw [wdAt_out hp]
  exact ⟨by simp,by unfold I64;exact ⟨by show (-9223372036854775808:Int)≤0;decide,by show (0:Int)≤9223372036854775807;decide⟩,fun e=>by cases e⟩
theorem take_name {ws:Ws} (hws:WsOk ws) {q:St} {k:Int}:(takeS ws q k).1.length≤65536:=by
 unfold takeS;split
 ·exact (wdAt_ok hws q.p).1
 ·simp
theorem own_pure (F:Base) (s:Str):PureV Tryz.prog F 120 #[.string (bs s)] (.bool (decide (s∈ownL))):=by
 refine pureV_of_svc mixed Tryz.func120 low120 (Nat.le_of_ble_eq_true rfl) (fun w0=>?_)
 simp only [fu120,↓ZD,ZW,simprocAttr]
 refine NewB.of fun b hb hF=>?_
 simp only [hF,↓ZD,ZW,simprocAttr]
 refine CallE.pureH (contains_pure _ (slsN (l:=ownL) (b:=b) (T:=9) (by simp [rdObj,hF,lk,ownL]) (by decide) (by decide)) s) ?_
 simp only [↓ZD,ZW,simprocAttr]
theorem drop2 {ws:Ws} {j:Nat} (h:j+1 < ws.length):ws.drop j=ws.getD j ((0,[],0),0)::ws.getD (j+1) ((0,[],0),0)::ws.drop (j+2):=by
 rw [List.drop_eq_getElem_cons (by omega),List.drop_eq_getElem_cons h,List.getD_eq_getElem?_getD,List.getElem?_eq_getElem (by omega),List.getD_eq_getElem?_getD,List.getElem?_eq_getElem h];rfl
theorem drop1 {ws:Ws} {j:Nat} (h:¬ j+1 < ws.length):pathL (ws.drop j)=([],0):=by
 rcases hd:ws.drop j with _ | ⟨a,_ | ⟨b,r⟩⟩
 ·rfl
 ·rfl
 ·have:=congrArg List.length hd;rw [List.length_drop] at this;simp only [List.length_cons] at this;omega
def PathI (ws:Ws) (X:Str×St) (y:St×Str):Prop:=
 (y.1.e≠0∧X=(y.2,y.1))∨(y.1.e=0∧0≤y.1.p∧y.1.p≤ws.length∧y.2.length≤65538 * y.1.p.toNat∧X=(y.2++(pathL (ws.drop y.1.p.toNat)).1,⟨y.1.p+(pathL (ws.drop y.1.p.toNat)).2,y.1.deep,y.1.e,y.1.bad⟩))
theorem isS_at {ws:Ws} {q:St} {j:Nat} {t:Str} (he:q.e=0) (hj:q.p=j) (hlt:j < ws.length):isS ws q t=isM (ws.getD j ((0,[],0),0)) t:=by
 unfold isS isM wk wtx
 rw [he,hj,wdAt_in hlt];rfl
theorem path_no {ws:Ws} {q:St} {j:Nat} (hj:q.p.toNat=j) (h:(q.e=0∧0≤q.p∧isS ws q [58,58]=false)∨¬ j+1 < ws.length∨((ws.getD (j+1) ((0,[],0),0)).1.1:Int)≠1):pathL (ws.drop j)=([],0):=by
 by_cases hlt:j+1 < ws.length
 ·rw [drop2 hlt,pathL,if_neg]
  rw [Bool.and_eq_true,beq_iff_eq]
  rintro ⟨h1,h2⟩
  rcases h with ⟨he,h0,hi⟩ | h | h
  ·rw [isS_at he (by omega:q.p=(j:Int)) (by omega)] at hi
   rw [hi] at h1;cases h1
  ·exact h hlt
  ·exact h h2
 ·exact drop1 hlt
theorem path_yes {ws:Ws} {q:St} {j:Nat} (he:q.e=0) (hj:q.p=j) (hi:isS ws q [58,58]=true) (hlt:j+1 < ws.length) (hk:((ws.getD (j+1) ((0,[],0),0)).1.1:Int)=1) :
  pathL (ws.drop j)=([58,58]++((ws.getD (j+1) ((0,[],0),0)).1.2.1++(pathL (ws.drop (j+2))).1),(pathL (ws.drop (j+2))).2+2):=by
 rw [drop2 hlt,pathL,if_pos]
 rw [Bool.and_eq_true,beq_iff_eq,← isS_at he hj (by omega)]
 exact ⟨hi,hk⟩
theorem pathI0 {ws:Ws} (hws:WsOk ws) (q:St):PathI ws (pathT ws (takeS ws q 1)) ((takeS ws q 1).2,(takeS ws q 1).1):=by
 unfold pathT
 unfold PathI
 by_cases h:(takeS ws q 1).2.e=0
 ·rw [if_pos h]
  have hl:=take_name hws (q:=q) (k:=1)
  have h2:(q.e=0∧wk ws q=1):=by
   by_cases h2:q.e=0∧wk ws q=1
   ·exact h2
   ·exact absurd (by unfold takeS at h;rw [if_neg h2] at h;exact h) (failS_e (by decide))
  have hr:=in_range (ws:=ws) (p:=q.p) (by have:=h2.2;unfold wk at this;omega)
  have hp:(takeS ws q 1).2.p=q.p+1:=by unfold takeS;rw [if_pos h2];rfl
  refine .inr ⟨h,by simp only;omega,by simp only;omega,by simp only;omega,rfl⟩
 ·rw [if_neg h]
  exact .inl ⟨h,rfl⟩
theorem path_rd (F:Base) {ws:Ws} (hws:WsOk ws) {l:Value} (hW:HasW F ws l) {b:Nat} (hFb:F b=none) (p:St):Rd1 F l 113 [] b p (.string (bs (pathS ws p).1)) (pathS ws p).2:=by
 have hb:rdObj F [(b,RdO l p)] b=some (RdO l p):=by simp [rdObj,hFb,lk]
 obtain ⟨bw,cap,sp,T,fz,rfl,hFw,hc,hm,hne⟩:=id hW
 refine does_of_svc (args:=[.pointer (some ⟨b,0,none⟩)]) mixed Tryz.func113 low113 (Nat.le_of_ble_eq_true rfl) (fun w0 hw0=>?_)
 simp only [fu113,hFb,↓ZD,ZW,simprocAttr]
 refine CallE.pureH (word_pure _ (hW.mono le_up) hb) ?_
 simp only [hFb,wf1,wsz,↓ZD,ZW,simprocAttr]
 refine CallE.pure (own_pure F _) ?_
 simp only [hFb,↓ZD,ZW,simprocAttr]
 refine ⟨fun h=>?_,fun h=>?_⟩
 ·refine CallE.rd1 [] (fail_rd _ (hW.mono le_up) (rdObj_none hFb (by simp)) p 10) (by simp) (by simp) (by simp) ?_
  simp only [hFb,↓ZD,ZW,simprocAttr]
  have hq:(if wtx ws p∈ownL then failS ws p 10 else p)=failS ws p 10:=if_pos (of_decide_eq_true h)
  refine CallE.rd1 [] (take_rd _ (hW.mono le_up) (rdObj_none hFb (by simp)) (failS ws p 10) 1 (by decide)) (by simp) (by simp) (by simp) ?_
  simp only [hFb,↓ZD,ZW,simprocAttr]
  rw [show pathS ws p=pathT ws (takeS ws (failS ws p 10) 1) from by unfold pathS;rw [hq]]
  have hI0:=pathI0 hws (failS ws p 10)
  revert hI0
  generalize pathT ws (takeS ws (failS ws p 10) 1)=X
  generalize (takeS ws (failS ws p 10) 1).1=o0
  generalize (takeS ws (failS ws p 10) 1).2=q0
  intro hI0
  refine LoopL.inv (α:=St×Str) (PathI ws X) (fun y=>[(0,some (.pointer (some ⟨b,0,none⟩))),(3,some (.string (bs y.2)))]) (fun y=>[(b,RdO (.slice (some ⟨bw,0,none⟩) ws.length cap) y.1)]) (fun y=>ws.length - y.1.p.toNat) (q0,o0) hI0 (by (simp (disch:=first | assumption | exact .symm ‹_› | omega) only [↓ZD,ZW,simprocAttr];try trivial)) (by (try (simp (disch:=first | assumption | exact .symm ‹_› | omega) only [↓ZD,ZW,simprocAttr]);try trivial)) ?_
  rintro ⟨q,o⟩ hI
  unfold PathI at hI
  dsimp only at hI
  have hbq:rdObj F [(b,RdO (.slice (some ⟨bw,0,none⟩) ws.length cap) q)] b=some (RdO (.slice (some ⟨bw,0,none⟩) ws.length cap) q):=by simp [rdObj,hFb,lk]
  rcases hI with ⟨he,hX⟩ | ⟨he,h0,h1,ho,hX⟩
  ·have hd:(q.e==0)=false:=by simpa using he
   subst hX
   simp only [hd,hFb,↓ZD,ZW,simprocAttr]
   refine CallQ.of (.bool false) trivial ?_
   obtain ⟨o1,v1,e1⟩:=ldV_ex F [(b,RdO (.slice (some ⟨bw,0,none⟩) ws.length cap) q)] 1 (.pointer (some ⟨bw,(IntKind.i64.wrap (q.p+1)).toNat * 4,none⟩))
   obtain ⟨o2,c2,e2⟩:=binq_eql_ex v1 (.int .i64 1)
   simp only [hd,hFb,↓e1,e2,↓ZD,ZW,simprocAttr]
  ·have hd:(q.e==0)=true:=by simpa using he
   obtain ⟨j,hj⟩:∃ j:Nat,q.p=j:=⟨q.p.toNat,by omega⟩
   have hj2:q.p.toNat=j:=by omega
   have hw1:IntKind.i64.wrap (q.p+1)=((j+1:Nat):Int):=by rw [wrap_i64];have:=hws.1;omega
   have hn1:((j+1:Nat):Int).toNat=j+1:=Int.toNat_natCast _
   rw [hj2] at hX
   simp only [hd,hFb,hw1,↓ZD,ZW,simprocAttr]
   refine CallQ.of _ (is_pure _ (hW.mono le_up) hbq [58,58]) ?_
   cases hi:isS ws q [58,58] with
   | false=>
    rw [path_no hj2 (.inl ⟨he,h0,hi⟩)] at hX
    subst hX
    obtain ⟨o1,v1,e1⟩:=ldV_ex F [(b,RdO (.slice (some ⟨bw,0,none⟩) ws.length cap) q)] 1 (.pointer (some ⟨bw,(j+1) * 4,none⟩))
    obtain ⟨o2,c2,e2⟩:=binq_eql_ex v1 (.int .i64 1)
    simp only [hd,hFb,hi,hw1,hn1,↓e1,e2,List.append_nil,Int.add_zero,Int.cast_ofNat_Int,↓ZD,ZW,simprocAttr]
   | true=>
    have hr:=isS_range hi
    by_cases hlt:j+1 < ws.length
    ·have hdl:decide (((j+1:Nat):Int) < (ws.length:Int))=true:=by simp;omega
     have hld:=wds_at0 (sp:=sp) (T:=T) (fz:=fz) hlt
     simp only [hd,hFb,hi,hdl,hFw,hld,hw1,hn1,↓ZD,ZW,simprocAttr]
     refine conj.of (by omega) ?_
     simp (disch:=first | assumption | exact .symm ‹_› | omega) only [hd,hFb,hi,hdl,hFw,hld,hw1,hn1,↓ZD,ZW,simprocAttr]
     refine ⟨fun hk=>?_,fun hk=>?_⟩
     ·have hk:=of_decide_eq_true hk
      rw [path_yes he hj hi hlt hk] at hX
      have hta:takeS ws (adv q) 1=((ws.getD (j+1) ((0,[],0),0)).1.2.1,adv (adv q)):=by
       have e:wdAt ws (adv q).p=ws.getD (j+1) ((0,[],0),0):=by rw [show (adv q).p=((j+1:Nat):Int) by show q.p+1=_;omega,wdAt_in hlt]
       unfold takeS;rw [if_pos ⟨he,by unfold wk;rw [e];exact hk⟩];unfold wtx;rw [e]
      have hadv:RdO (.slice (some ⟨bw,0,none⟩) ws.length cap) (adv q)=.cells #[.slice (some ⟨bw,0,none⟩) ws.length cap,.int .i64 ((j+1:Nat):Int),.int .i64 q.deep,.int .i64 q.e,.int .i64 q.bad] 84 (0,0):=by
       unfold RdO adv;rw [hj];rfl
      rw [← hadv]
      have hlen:=(wdAt_ok hws (adv q).p).1
      rw [show (adv q).p=((j+1:Nat):Int) by show q.p+1=_;omega,wdAt_in hlt] at hlen
      refine CallE.rd1 [] (take_rd _ (hW.mono le_up) (rdObj_none hFb (by simp)) (adv q) 1 (by decide)) (by simp) (by simp) (by simp) ?_
      rw [hta]
      generalize (ws.getD (j+1) ((0,[],0),0)).1.2.1=t at *
      have h65:=hws.1
      simp only [hFb,↓ZD,ZW,simprocAttr]
      refine conj.of (by omega) ?_
      simp only [hFb,↓ZD,ZW,simprocAttr]
      refine conj.of (by omega) ?_
      simp only [hFb,↓ZD,ZW,simprocAttr]
      refine invK.on (adv (adv q),o++([58,58]++t)) ?_ ?_ ?_ ?_
      ·refine .inr ⟨he,by show (0:Int)≤q.p+1+1;omega,by show q.p+1+1≤(ws.length:Int);omega,?_,?_⟩
       ·show (o++([58,58]++t)).length≤65538 * (q.p+1+1).toNat
        simp only [List.length_append,List.length_cons,List.length_nil];omega
       ·rw [hX,show (adv (adv q)).p.toNat=j+2 by show (q.p+1+1).toNat=_;omega]
        refine Prod.ext (by simp) ?_
        show (⟨_,_,_,_⟩:St)=⟨_,_,_,_⟩
        congr 1
        show q.p+((pathL (ws.drop (j+2))).2+2:Nat)=q.p+1+1+((pathL (ws.drop (j+2))).2:Nat)
        omega
      ·show ws.length - (q.p+1+1).toNat < ws.length - q.p.toNat
       omega
      ·simp only [Le_nil,Le_cons];simp only [↓ZD,ZW,simprocAttr];try trivial
      ·exact ⟨by simp [lk],trivial⟩
     ·have hk:=of_decide_eq_false hk
      rw [path_no hj2 (.inr (.inr hk))] at hX
      subst hX
      simp only [hFb,List.append_nil,Int.add_zero,Int.cast_ofNat_Int,↓ZD,ZW,simprocAttr]
    ·rw [path_no hj2 (.inr (.inl hlt))] at hX
     subst hX
     have hdl:decide (((j+1:Nat):Int) < (ws.length:Int))=false:=by simp;omega
     obtain ⟨o1,v1,e1⟩:=ldV_ex F [(b,RdO (.slice (some ⟨bw,0,none⟩) ws.length cap) q)] 1 (.pointer (some ⟨bw,(j+1) * 4,none⟩))
     obtain ⟨o2,c2,e2⟩:=binq_eql_ex v1 (.int .i64 1)
     simp only [hd,hFb,hi,hdl,hw1,hn1,↓e1,e2,List.append_nil,Int.add_zero,Int.cast_ofNat_Int,↓ZD,ZW,simprocAttr]
 ·have hq:(if wtx ws p∈ownL then failS ws p 10 else p)=p:=if_neg (of_decide_eq_false h)
  refine CallE.rd1 [] (take_rd _ (hW.mono le_up) (rdObj_none hFb (by simp)) (p) 1 (by decide)) (by simp) (by simp) (by simp) ?_
  simp only [hFb,↓ZD,ZW,simprocAttr]
  rw [show pathS ws p=pathT ws (takeS ws (p) 1) from by unfold pathS;rw [hq]]
  have hI0:=pathI0 hws (p)
  revert hI0
  generalize pathT ws (takeS ws (p) 1)=X
  generalize (takeS ws (p) 1).1=o0
  generalize (takeS ws (p) 1).2=q0
  intro hI0
  refine LoopL.inv (α:=St×Str) (PathI ws X) (fun y=>[(0,some (.pointer (some ⟨b,0,none⟩))),(3,some (.string (bs y.2)))]) (fun y=>[(b,RdO (.slice (some ⟨bw,0,none⟩) ws.length cap) y.1)]) (fun y=>ws.length - y.1.p.toNat) (q0,o0) hI0 (by (simp (disch:=first | assumption | exact .symm ‹_› | omega) only [↓ZD,ZW,simprocAttr];try trivial)) (by (try (simp (disch:=first | assumption | exact .symm ‹_› | omega) only [↓ZD,ZW,simprocAttr]);try trivial)) ?_
  rintro ⟨q,o⟩ hI
  unfold PathI at hI
  dsimp only at hI
  have hbq:rdObj F [(b,RdO (.slice (some ⟨bw,0,none⟩) ws.length cap) q)] b=some (RdO (.slice (some ⟨bw,0,none⟩) ws.length cap) q):=by simp [rdObj,hFb,lk]
  rcases hI with ⟨he,hX⟩ | ⟨he,h0,h1,ho,hX⟩
  ·have hd:(q.e==0)=false:=by simpa using he
   subst hX
   simp only [hd,hFb,↓ZD,ZW,simprocAttr]
   refine CallQ.of (.bool false) trivial ?_
   obtain ⟨o1,v1,e1⟩:=ldV_ex F [(b,RdO (.slice (some ⟨bw,0,none⟩) ws.length cap) q)] 1 (.pointer (some ⟨bw,(IntKind.i64.wrap (q.p+1)).toNat * 4,none⟩))
   obtain ⟨o2,c2,e2⟩:=binq_eql_ex v1 (.int .i64 1)
   simp only [hd,hFb,↓e1,e2,↓ZD,ZW,simprocAttr]
  ·have hd:(q.e==0)=true:=by simpa using he
   obtain ⟨j,hj⟩:∃ j:Nat,q.p=j:=⟨q.p.toNat,by omega⟩
   have hj2:q.p.toNat=j:=by omega
   have hw1:IntKind.i64.wrap (q.p+1)=((j+1:Nat):Int):=by rw [wrap_i64];have:=hws.1;omega
   have hn1:((j+1:Nat):Int).toNat=j+1:=Int.toNat_natCast _
   rw [hj2] at hX
   simp only [hd,hFb,hw1,↓ZD,ZW,simprocAttr]
   refine CallQ.of _ (is_pure _ (hW.mono le_up) hbq [58,58]) ?_
   cases hi:isS ws q [58,58] with
   | false=>
    rw [path_no hj2 (.inl ⟨he,h0,hi⟩)] at hX
    subst hX
    obtain ⟨o1,v1,e1⟩:=ldV_ex F [(b,RdO (.slice (some ⟨bw,0,none⟩) ws.length cap) q)] 1 (.pointer (some ⟨bw,(j+1) * 4,none⟩))
    obtain ⟨o2,c2,e2⟩:=binq_eql_ex v1 (.int .i64 1)
    simp only [hd,hFb,hi,hw1,hn1,↓e1,e2,List.append_nil,Int.add_zero,Int.cast_ofNat_Int,↓ZD,ZW,simprocAttr]
   | true=>
    have hr:=isS_range hi
    by_cases hlt:j+1 < ws.length
    ·have hdl:decide (((j+1:Nat):Int) < (ws.length:Int))=true:=by simp;omega
     have hld:=wds_at0 (sp:=sp) (T:=T) (fz:=fz) hlt
     simp only [hd,hFb,hi,hdl,hFw,hld,hw1,hn1,↓ZD,ZW,simprocAttr]
     refine conj.of (by omega) ?_
     simp (disch:=first | assumption | exact .symm ‹_› | omega) only [hd,hFb,hi,hdl,hFw,hld,hw1,hn1,↓ZD,ZW,simprocAttr]
     refine ⟨fun hk=>?_,fun hk=>?_⟩
     ·have hk:=of_decide_eq_true hk
      rw [path_yes he hj hi hlt hk] at hX
      have hta:takeS ws (adv q) 1=((ws.getD (j+1) ((0,[],0),0)).1.2.1,adv (adv q)):=by
       have e:wdAt ws (adv q).p=ws.getD (j+1) ((0,[],0),0):=by rw [show (adv q).p=((j+1:Nat):Int) by show q.p+1=_;omega,wdAt_in hlt]
       unfold takeS;rw [if_pos ⟨he,by unfold wk;rw [e];exact hk⟩];unfold wtx;rw [e]
      have hadv:RdO (.slice (some ⟨bw,0,none⟩) ws.length cap) (adv q)=.cells #[.slice (some ⟨bw,0,none⟩) ws.length cap,.int .i64 ((j+1:Nat):Int),.int .i64 q.deep,.int .i64 q.e,.int .i64 q.bad] 84 (0,0):=by
       unfold RdO adv;rw [hj];rfl
      rw [← hadv]
      have hlen:=(wdAt_ok hws (adv q).p).1
      rw [show (adv q).p=((j+1:Nat):Int) by show q.p+1=_;omega,wdAt_in hlt] at hlen
      refine CallE.rd1 [] (take_rd _ (hW.mono le_up) (rdObj_none hFb (by simp)) (adv q) 1 (by decide)) (by simp) (by simp) (by simp) ?_
      rw [hta]
      generalize (ws.getD (j+1) ((0,[],0),0)).1.2.1=t at *
      have h65:=hws.1
      simp only [hFb,↓ZD,ZW,simprocAttr]
      refine conj.of (by omega) ?_
      simp only [hFb,↓ZD,ZW,simprocAttr]
      refine conj.of (by omega) ?_
      simp only [hFb,↓ZD,ZW,simprocAttr]
      refine invK.on (adv (adv q),o++([58,58]++t)) ?_ ?_ ?_ ?_
      ·refine .inr ⟨he,by show (0:Int)≤q.p+1+1;omega,by show q.p+1+1≤(ws.length:Int);omega,?_,?_⟩
       ·show (o++([58,58]++t)).length≤65538 * (q.p+1+1).toNat
        simp only [List.length_append,List.length_cons,List.length_nil];omega
       ·rw [hX,show (adv (adv q)).p.toNat=j+2 by show (q.p+1+1).toNat=_;omega]
        refine Prod.ext (by simp) ?_
        show (⟨_,_,_,_⟩:St)=⟨_,_,_,_⟩
        congr 1
        show q.p+((pathL (ws.drop (j+2))).2+2:Nat)=q.p+1+1+((pathL (ws.drop (j+2))).2:Nat)
        omega
      ·show ws.length - (q.p+1+1).toNat < ws.length - q.p.toNat
       omega
      ·simp only [Le_nil,Le_cons];simp only [↓ZD,ZW,simprocAttr];try trivial
      ·exact ⟨by simp [lk],trivial⟩
     ·have hk:=of_decide_eq_false hk
      rw [path_no hj2 (.inr (.inr hk))] at hX
      subst hX
      simp only [hFb,List.append_nil,Int.add_zero,Int.cast_ofNat_Int,↓ZD,ZW,simprocAttr]
    ·rw [path_no hj2 (.inr (.inl hlt))] at hX
     subst hX
     have hdl:decide (((j+1:Nat):Int) < (ws.length:Int))=false:=by simp;omega
     obtain ⟨o1,v1,e1⟩:=ldV_ex F [(b,RdO (.slice (some ⟨bw,0,none⟩) ws.length cap) q)] 1 (.pointer (some ⟨bw,(j+1) * 4,none⟩))
     obtain ⟨o2,c2,e2⟩:=binq_eql_ex v1 (.int .i64 1)
     simp only [hd,hFb,hi,hdl,hw1,hn1,↓e1,e2,List.append_nil,Int.add_zero,Int.cast_ofNat_Int,↓ZD,ZW,simprocAttr]
theorem uid_rd (F:Base) {ws:Ws} (hws:WsOk ws) {l:Value} (hW:HasW F ws l) {b:Nat} (hFb:F b=none) (p:St):Rd1 F l 102 [] b p (.agg #[.string (bs (uidS ws p).1.1),.string (bs (uidS ws p).1.2)]) (uidS ws p).2:=by
 refine Does.shr (K:=fun v H'=>v=.agg #[.string (bs (uidS ws p).1.1),.string (bs (uidS ws p).1.2)]∧(b,RdO l (uidS ws p).2)∈H') ?_ fun v H' ⟨h1,h2⟩=>⟨[_],by simpa using h2,h1,rfl⟩
 refine does_of_svc (args:=[.pointer (some ⟨b,0,none⟩)]) mixed Tryz.func102 low102 (Nat.le_of_ble_eq_true rfl) (fun w0 hw0=>?_)
 simp only [fu102,hFb,↓ZD,ZW,simprocAttr]
 refine NewB.of fun b2 hb2 hF2=>?_
 simp only [List.forall_mem_cons,List.not_mem_nil,false_implies,implies_true,and_true] at hb2
 simp only [hFb,hF2,↓ZD,ZW,simprocAttr]
 refine CallE.rd1 [(b2,.cells #[.string (bs []),.string (bs [])] 24 (0,0))] (path_rd _ hws (hW.mono le_up) (rdObj_none hFb (by simpa using Ne.symm hb2)) p) (by simp) (by simp) (by simpa using Ne.symm hb2) ?_
 simp only [hFb,hF2,↓ZD,ZW,simprocAttr]
 refine CallE.rd1 [(b2,.cells #[.string (bs []),.string (bs [])] 24 (0,0))] (must_rd _ (hW.mono le_up) (rdObj_none hFb (by simpa using Ne.symm hb2)) (pathS ws p).2 [58,58]) (by simp) (by simp) (by simpa using Ne.symm hb2) ?_
 simp only [hFb,hF2,↓ZD,ZW,simprocAttr]
 refine CallE.rd1 [(b2,.cells #[.string (bs []),.string (bs [])] 24 (0,0))] (take_rd _ (hW.mono le_up) (rdObj_none hFb (by simpa using Ne.symm hb2)) (mustS ws (pathS ws p).2 [58,58]) 3 (by decide)) (by simp) (by simp) (by simpa using Ne.symm hb2) ?_
 simp (disch:=first | assumption | exact .symm ‹_› | omega) only [hFb,hF2,↓ZD,ZW,simprocAttr]
 simp [uidS]
inductive RepP (F:Base):List Value→Ex'→Prop
 | mk (op:Int) (v:LV) (nm:Str) (a1:Option Addr) (c1:Nat) (kids:List Ex') (g1:Nat→List Value) (vn:Value) (names:List Str)
   (hop:I64 op) (hk:I64 v.kind) (hn:I64 v.n) (hl1:kids.length≤9223372036854775807) (hc1:kids.length≤c1)
   (h1:∀ (i:Nat) (t:Ex'),kids[i]?=some t→Cl F a1 12 i (g1 i)) (r1:∀ (i:Nat) (t:Ex'),kids[i]?=some t→RepP F (g1 i) t) (hN:SlS F vn names) :
   RepP F (xcells op v (.slice none 0 0) (.slice none 0 0) nm (.slice a1 kids.length c1) vn) (.mk op v nm kids names)
theorem RepP.mono {F F':Base} (hF:∀ b o,F b=some o→F' b=some o) {cs:List Value} {t:Ex'} (h:RepP F cs t):RepP F' cs t:=by
 induction h with
 | mk op v nm a1 c1 kids g1 vn names hop hk hn hl1 hc1 h1 r1 hN i1=>
  exact .mk op v nm a1 c1 kids g1 vn names hop hk hn hl1 hc1 (fun i t h=>(h1 i t h).mono hF) i1 (hN.mono hF)
theorem RepP.toX {F:Base} {cs:List Value} {t:Ex'} (h:RepP F cs t):RepX F cs t:=by
 induction h with
 | mk op v nm a1 c1 kids g1 vn names hop hk hn hl1 hc1 h1 r1 hN i1=>
  exact .mk op v _ _ nm a1 c1 kids g1 vn names ⟨⟨_,_,_,rfl⟩,_,_,_,rfl⟩ hop hk hn hl1 hc1 h1 i1 hN
theorem RepP.len {F:Base} {cs:List Value} {t:Ex'} (h:RepP F cs t):cs.length=12:=by
 cases h;rfl
theorem slS_nil {F:Base}:SlS F (.slice none 0 0) []:=⟨none,0,rfl,Nat.le_refl _,Nat.zero_le _,fun i s h=>by simp at h,fun i s h=>by simp at h⟩
theorem repP_leaf {F:Base} {op:Int} {v:LV} {nm:Str} (hop:I64 op) (hk:I64 v.kind) (hn:I64 v.n):RepP F (xcells op v (.slice none 0 0) (.slice none 0 0) nm (.slice none 0 0) (.slice none 0 0)) (.mk op v nm [] []):=
 .mk op v nm none 0 [] (fun _=>[]) _ [] hop hk hn (Nat.zero_le _) (Nat.le_refl _) (fun i t h=>by simp at h) (fun i t h=>by simp at h) slS_nil
theorem repP_nil {F:Base}:RepP F (xcells 0 lv0 (.slice none 0 0) (.slice none 0 0) [] (.slice none 0 0) (.slice none 0 0)) nilX:=repP_leaf (by unfold I64;decide) (by unfold I64;decide) (by unfold I64;decide)
theorem kids_at {css:List (List Value)} {sp:List Value} (hl:∀ c∈css,c.length=12) {i:Nat} {c:List Value} (h:css[i]?=some c):((css.flatten++sp).drop (i * 12)).take 12=c∧i * 12+12≤(css.flatten++sp).length:=by
 induction css generalizing i with
 | nil=>simp at h
 | cons x r ih=>
  have hx:=hl x List.mem_cons_self
  cases i with
  | zero=>
   simp only [List.getElem?_cons_zero,Option.some.injEq] at h
   subst h
   simp only [List.flatten_cons,List.append_assoc,Nat.zero_mul,List.drop_zero]
   exact ⟨List.take_left' hx,by rw [List.length_append];omega⟩
  | succ i=>
   obtain ⟨h1,h2⟩:=ih (fun c hc=>hl c (List.mem_cons_of_mem _ hc)) (by simpa using h)
   simp only [List.flatten_cons,List.append_assoc]
   have e:(i+1) * 12=x.length+i * 12:=by omega
   refine ⟨?_,by rw [List.length_append];omega⟩
   rw [e,← List.drop_drop,List.drop_left' rfl]
   exact h1
theorem repP_node {F:Base} {op:Int} {v:LV} {nm:Str} {bk cap T:Nat} {fz:Nat×Nat} {css:List (List Value)} {sp:List Value} {kids:List Ex'} {vn:Value} {names:List Str} (hop:I64 op) (hk:I64 v.kind) (hn:I64 v.n)
  (hF:F bk=some (.cells (css.flatten++sp).toArray T fz)) (hl:css.length=kids.length) (hc:kids.length≤cap) (hm:kids.length≤9223372036854775807) (h:∀ (i:Nat) (c:List Value) (t:Ex'),css[i]?=some c→kids[i]?=some t→RepP F c t) (hN:SlS F vn names) :
  RepP F (xcells op v (.slice none 0 0) (.slice none 0 0) nm (.slice (some ⟨bk,0,none⟩) kids.length cap) vn) (.mk op v nm kids names):=by
 have hcl:∀ (i:Nat) (t:Ex'),kids[i]?=some t→∃ c,css[i]?=some c∧RepP F c t:=fun i t ht=>by
  have hi:i < css.length:=by rw [hl];exact (List.getElem?_eq_some_iff.mp ht).1
  exact ⟨css[i],List.getElem?_eq_getElem hi,h i _ t (List.getElem?_eq_getElem hi) ht⟩
 have h12:∀ c∈css,c.length=12:=fun c hc=>by
  obtain ⟨i,hi,rfl⟩:=List.getElem_of_mem hc
  have ht:kids[i]?=some kids[i]:=List.getElem?_eq_getElem (by rw [← hl];exact hi)
  exact (h i _ _ (List.getElem?_eq_getElem hi) ht).len
 refine .mk op v nm (some ⟨bk,0,none⟩) cap kids (fun i=>css[i]?.getD []) vn names hop hk hn hm hc (fun i t ht=>?_) (fun i t ht=>?_) hN
 ·obtain ⟨c,hc1,hc2⟩:=hcl i t ht
  obtain ⟨k1,k2⟩:=kids_at (sp:=sp) h12 hc1
  refine ⟨bk,0,_,_,_,rfl,hF,?_,?_⟩
  ·simpa using k2
  ·rw [hc1,Option.getD_some];simpa using k1
 ·obtain ⟨c,hc1,hc2⟩:=hcl i t ht
  rw [hc1,Option.getD_some];exact hc2
theorem rdObj_app {F:Base} {G Hx:Hp} {b:Nat} {o:Obj} (h:rdObj (rdObj F G) Hx b=some o):rdObj F (G++Hx) b=some o:=by
 unfold rdObj at *
 cases hF:F b with
 | some o'=>simpa [hF] using h
 | none=>
  simp only [hF] at h ⊢
  rw [lk_append]
  cases hG:lk G b with
  | some o'=>simpa [hG] using h
  | none=>simpa [hG] using h
theorem rdObj_app1 {F:Base} {G Hx:Hp} {b:Nat} {o:Obj} (h:rdObj F G b=some o):rdObj F (G++Hx) b=some o:=rdObj_app (le_up b o h)
theorem rdObj_r {F:Base} {G X:Hp} (h:∀ e∈G,∀ e'∈X,e'.1≠e.1) {b:Nat} {o:Obj} (hb:rdObj F X b=some o):rdObj F (G++X) b=some o:=by
 unfold rdObj at *
 cases hF:F b with
 | some o2=>simpa [hF] using hb
 | none=>
  simp only [hF] at hb ⊢
  rw [lk_append,lk_none fun e he=>fun x=>h e he _ (lk_mem hb) x.symm]
  exact hb
theorem rdObj_sub {F:Base} {G G':Hp} (h:∀ e∈G,lk G' e.1=some e.2) {b:Nat} {o:Obj} (hb:rdObj F G b=some o):rdObj F G' b=some o:=by
 unfold rdObj at *
 cases hF:F b with
 | some o'=>simpa [hF] using hb
 | none=>simp only [hF] at hb ⊢;exact h _ (lk_mem hb)
theorem Wk.hle {A G:Hp} (h:Wk G) (hd:∀ e∈G,lk A e.1=none):HLe G (A++G):=by
 have key:∀ B:Hp,(∀ e∈B,lk (A++G) e.1=some e.2)→HLe B (A++G):=fun B=>by
  induction B with
  | nil=>intro _;trivial
  | cons e r ih=>
   obtain ⟨b,o⟩:=e
   intro h
   exact ⟨h _ List.mem_cons_self,ih fun e he=>h e (List.mem_cons_of_mem _ he)⟩
 refine key G fun e he=>?_
 rw [lk_append,hd e he]
 exact h e he
theorem HLe.of {A H:Hp} (h:∀ e∈A,lk H e.1=some e.2):HLe A H:=by
 induction A with
 | nil=>trivial
 | cons e r ih=>
  obtain ⟨b,o⟩:=e
  exact ⟨h _ List.mem_cons_self,ih fun e he=>h e (List.mem_cons_of_mem _ he)⟩
theorem HLe.app {A B H:Hp} (h1:HLe A H) (h2:HLe B H):HLe (A++B) H:=by
 induction A with
 | nil=>exact h2
 | cons e r ih=>
  obtain ⟨b,o⟩:=e
  exact ⟨h1.1,ih h1.2⟩
abbrev Ok12 (cs:List Value):Prop:=cs.length=12∧(cs.all oneCell&&!cs.isEmpty)=true∧cs.take 12=cs∧cs.drop 12=[]
abbrev zx:List Value:=[Value.int IntKind.i64 0,Value.int IntKind.i64 0,Value.bool false,Value.int IntKind.i64 0,Value.string (bs []),Value.string (bs []),Value.string (bs []),Value.slice none 0 0,Value.slice none 0 0,Value.string (bs []),Value.slice none 0 0,Value.slice none 0 0]
def PPost (F:Base) (l:Value) (b:Nat) (x:Ex') (s':St) (r:Value) (H':Hp):Prop:=∃ (p':St) (cs:List Value) (Hx:Hp),Agr p' s'∧r=.agg cs.toArray∧Ok12 cs∧(s'.e=0→RepP (rdObj F Hx) cs x)∧(∀ e∈Hx,e.1≠b)∧Wk Hx∧H'=(b,RdO l p')::Hx
def PFin (F:Base) (l:Value) (b:Nat) (x:Ex') (s':St) (r:Value) (H:Hp):Prop:=∃ (p':St) (cs:List Value) (Hx:Hp),Agr p' s'∧r=.agg cs.toArray∧Ok12 cs∧(s'.e=0→RepP (rdObj F Hx) cs x)∧(∀ e∈Hx,e.1≠b)∧Wk Hx∧(b,RdO l p')∈H∧∀ e∈Hx,e∈H
def Good (s:St):Prop:=s.e=0→0≤s.deep∧s.deep≤50
theorem Good.fwd {k:Int} {s t:St} (h:Good s) (hf:Fwd k s t):Good t:=fun he=>by
 obtain ⟨a,_,c⟩:=hf he
 rw [c];exact h a
theorem Good.go {ws:Ws} {n:Nat} {nt:NT} {s:St} {x:Ex'} {t:St} (h:Good s) (hg:G ws n nt s=some (x,t)):Good t:=h.fwd (G_goes ws n _ _ _ hg)
theorem Good.adv {s:St} (h:Good s):Good (adv s):=h.fwd Fwd.adv
theorem Good.must {ws:Ws} {s:St} {t:Str} (h:Good s):Good (mustS ws s t):=h.fwd Fwd.must
theorem Good.take {ws:Ws} {s:St} {k:Int} (h:Good s):Good (takeS ws s k).2:=h.fwd Fwd.take
theorem Good.fail {ws:Ws} {s:St} {e:Int} (he:e≠0) (h:Good s):Good (failS ws s e):=h.fwd (Fwd.fail he 0)
def Prs (F:Base) (l:Value) (f:Nat) (R:St→Option (Ex'×St)):Prop:=∀ F':Base,(∀ b o,F b=some o→F' b=some o)→∀ (b:Nat) (p s:St) (x:Ex') (s':St),F' b=none→Agr p s→Good s→R s=some (x,s') →
 Does Tryz.prog F' f #[.pointer (some ⟨b,0,none⟩)] [(b,RdO l p)] (PPost F' l b x s')
theorem Prs.mono {F F':Base} {l:Value} {f:Nat} {R:St→Option (Ex'×St)} (h:Prs F l f R) (hF:∀ b o,F b=some o→F' b=some o):Prs F' l f R:=fun F2 h2=>h F2 fun b o hb=>h2 b o (hF b o hb)
theorem Does.fin {F:Base} {l:Value} {f:Nat} {args:Array Value} {b:Nat} {p:St} {x:Ex'} {s':St} (h:Does Tryz.prog F f args [(b,RdO l p)] (PFin F l b x s')):Does Tryz.prog F f args [(b,RdO l p)] (PPost F l b x s'):=
 h.shr fun v H' ⟨p',cs,Hx,h1,h2,h3,h4,h5,hw,h6,h7⟩=>⟨(b,RdO l p')::Hx,by
  intro e he
  rcases List.mem_cons.1 he with rfl | he
  ·exact h6
  ·exact h7 e he,p',cs,Hx,h1,h2,h3,h4,h5,hw,rfl⟩
section
variable {X:List Nat} {F:Base} {w0:World} {l:Value} {f:Nat} {R:St→Option (Ex'×St)} {H:Hp} {K:Value→Hp→Prop} {b:Nat} {p s:St} {x:Ex'} {s':St} (Hl G:Hp)
theorem CallG.par {args:Array Value} (h:∀ F':Base,(∀ b o,rdObj F G b=some o→F' b=some o)→F' b=none→Does Tryz.prog F' f args [(b,RdO l p)] (PPost F' l b x s')) (hFb:F b=none)
  (hb:(b,RdO l p)∈H) (hl:∀ e∈Hl,e∈H) (hG:∀ e∈G,e∈H) (nl:∀ e∈Hl,e.1≠b) (nG:∀ e∈G,e.1≠b) (dG:∀ e∈Hl,∀ e'∈G,e.1≠e'.1) (fG:∀ e∈Hl,F e.1=none) (wG:Wk G)
  (hk:∀ p' cs G',Agr p' s'→Ok12 cs→(s'.e=0→RepP (rdObj F G') cs x)→(∀ e∈G',e.1≠b)→(∀ e∈Hl,∀ e'∈G',e.1≠e'.1)→(∀ b o,rdObj F G b=some o→rdObj F G' b=some o)→Wk G'→K (.agg cs.toArray) ((b,RdO l p')::(Hl++G'))) :
  CallG Tryz.prog X F w0 f args H K:=by
 have h1:=h (rdObj F G) (fun _ _ h=>h) (rdObj_none hFb nG)
 refine CallG.shr (K:=fun v H'=>∃ p' cs Hx,Agr p' s'∧v=.agg cs.toArray∧Ok12 cs∧(s'.e=0→RepP (rdObj F (G++Hx)) cs x)∧(∀ e∈Hx,e.1≠b)∧(∀ e∈Hl,∀ e'∈Hx,e.1≠e'.1)∧Wk (G++Hx)∧H'=(Hl++G)++((b,RdO l p')::Hx)) (CallG.frame (H0:=[(b,RdO l p)]) (Hr:=Hl++G) h1 ?_ ?_ ?_ ?_ ?_) ?_
 ·intro b' o' hb'
  unfold rdObj at *
  cases hF:F b' with
  | some o2=>simpa [hF] using hb'
  | none=>
   simp only [hF] at hb' ⊢
   rw [lk_append,lk_none (fun e he=>fun e2=>dG e he _ (lk_mem hb') e2)]
   exact hb'
 ·simpa using hb
 ·intro e he
  rcases List.mem_append.1 he with he | he
  ·exact hl e he
  ·exact hG e he
 ·intro e' he' e he
  rw [List.mem_singleton.1 he]
  rcases List.mem_append.1 he' with he' | he'
  ·exact (nl e' he').symm
  ·exact (nG e' he').symm
 ·rintro v H' ⟨p',cs,Hx,k1,k2,k3,k4,k5,kw,rfl⟩ d1 d2 _
  refine ⟨p',cs,Hx,k1,k2,k3,fun he=>(k4 he).mono fun _ _=>rdObj_app,k5,fun e he e' he'=>(d2 e (List.mem_append_left _ he) e' (List.mem_cons_of_mem _ he')).symm,wG.app kw fun e he e' he'=>d2 e (List.mem_append_right _ he) e' (List.mem_cons_of_mem _ he'),rfl⟩
 ·rintro v H' ⟨p',cs,Hx,k1,k2,k3,k4,k5,k6,kw,rfl⟩
  refine ⟨(b,RdO l p')::(Hl++(G++Hx)),?_,?_⟩
  ·intro e he
   simp only [List.mem_append,List.mem_cons] at he ⊢
   rcases he with rfl | h | h | h <;> simp [*]
  ·rw [k2]
   refine hk p' cs (G++Hx) k1 k3 k4 ?_ ?_ (fun _ _=>rdObj_app1) kw
   ·intro e he
    rcases List.mem_append.1 he with he | he
    ·exact nG e he
    ·exact k5 e he
   ·intro e he e' he'
    rcases List.mem_append.1 he' with he' | he'
    ·exact dG e he e' he'
    ·exact k6 e he e' he'
theorem CallG.prs {args:Array Value} {Hl G:Hp} {o:Obj} [sp:Sp b H o Hl G] (h:∀ F':Base,(∀ b o,F b=some o→F' b=some o)→(∀ b o,rdObj F G b=some o→F' b=some o)→F' b=none→Does Tryz.prog F' f args [(b,RdO l p)] (PPost F' l b x s')) (ho:o=RdO l p) (sd:Side F b Hl G)
  (hk:∀ p' cs G',Agr p' s'→(s'.e=0→RepP (rdObj F G') cs x)→Ok12 cs∧Nb b G'∧Dj Hl G'∧(∀ b o,rdObj F G b=some o→rdObj F G' b=some o)∧Wk G'→K (.agg cs.toArray) ((b,RdO l p')::(Hl++G'))) :
  CallG Tryz.prog X F w0 f args H K:=by
 obtain ⟨h1,h2,h3,h4,h5,h6⟩:=sd
 subst ho
 exact CallG.par Hl G (fun F' k1 k2=>h F' (fun b o hb=>k1 b o (le_up b o hb)) k1 k2) h1 sp.mem sp.sub sp.subG h2.all h3.all (fun e he e' he'=>(Dj.iff.1 h4 e he e' he').symm) (Nf.iff.1 h5) h6
  fun p' cs G' k1 k2 k3 k4 k5 k6 k7=>hk p' cs G' k1 k3 ⟨k2,Nb.of k4,Dj.iff.2 fun e he e' he'=>(k5 e he e' he').symm,k6,k7⟩
theorem CallE.par {Hl G:Hp} {o:Obj} [sp:Sp b H o Hl G] (h:Prs F l f R) (hA:Agr p s) (hd:Good s) (hR:R s=some (x,s')) (ho:o=RdO l p) (sd:Side F b Hl G)
  (hk:∀ p' cs G',Agr p' s'→(s'.e=0→RepP (rdObj F G') cs x)→Ok12 cs∧Nb b G'∧Dj Hl G'∧(∀ b o,rdObj F G b=some o→rdObj F G' b=some o)∧Wk G'→K (.agg cs.toArray) ((b,RdO l p')::(Hl++G'))) :
  @CallE Tryz.prog X F w0 f #[.pointer (some ⟨b,0,none⟩)] H ⟨K⟩:=
 CallG.prs (fun F' k1 _ k2=>h F' k1 b p s x s' k2 hA hd hR) ho sd hk
theorem CallEF.par {Hl G:Hp} {o:Obj} [sp:Sp b H o Hl G] (hc:callable Tryz.prog f=true) (h:Prs F l f R) (hA:Agr p s) (hd:Good s) (hR:R s=some (x,s')) (ho:o=RdO l p) (sd:Side F b Hl G)
  (hk:∀ p' cs G',Agr p' s'→(s'.e=0→RepP (rdObj F G') cs x)→Ok12 cs∧Nb b G'∧Dj Hl G'∧(∀ b o,rdObj F G b=some o→rdObj F G' b=some o)∧Wk G'→K (.agg cs.toArray) ((b,RdO l p')::(Hl++G'))) :
  @CallEF Tryz.prog X F w0 (.func (.func f) #[] #[]) [.pointer (some ⟨b,0,none⟩)] H ⟨K⟩:=
 ⟨f,#[],#[],rfl,hc,CallG.prs (fun F' k1 _ k2=>h F' k1 b p s x s' k2 hA hd hR) ho sd hk⟩
def RdQ (F:Base) (l:Value) (f:Nat) (args:List Value) (b:Nat) (p:St) (r:Value) (p':St):Prop:=∀ F':Base,(∀ b o,F b=some o→F' b=some o)→F' b=none→Rd1 F' l f args b p r p'
theorem CallE.rdq {args:List Value} {r:Value} {p':St} {Hl G:Hp} {o:Obj} [sp:Sp b H o Hl G] (h:RdQ F l f args b p r p') (ho:o=RdO l p) (sd:Side F b Hl G) (hk:K r ((b,RdO l p')::(Hl++G))) :
  @CallE Tryz.prog X F w0 f (.pointer (some ⟨b,0,none⟩)::args).toArray H ⟨K⟩:=by
 obtain ⟨h1,h2,h3,-,-,-⟩:=sd
 subst ho
 have h4:∀ e∈Hl++G,e.1≠b:=fun e he=>(List.mem_append.1 he).elim (h2.all e) (h3.all e)
 exact CallE.rd1 (Hl++G) (h _ le_up (rdObj_nb h1 (Nb.of h4))) sp.mem (fun e he=>(List.mem_append.1 he).elim (sp.sub e) (sp.subG e)) h4 hk
theorem PFin.m {cs:List Value} {Hl G:Hp} {o:Obj} [sp:Sp b H o Hl G] (Hx:Hp) (hA:Agr p s') (ho:o=RdO l p) (hc:Ok12 cs) (hr:s'.e=0→RepP (rdObj F Hx) cs x) (nb:Nb b Hx) (w:Wk Hx) (hs:∀ e∈Hx,e∈H):PFin F l b x s' (.agg cs.toArray) H:=
 ⟨p,cs,Hx,hA,rfl,hc,hr,nb.all,w,by rw [← ho];exact sp.mem,hs⟩
theorem PFin.g {cs:List Value} {Hl G:Hp} {o:Obj} [sp:Sp b H o Hl G] (hA:Agr p s') (ho:o=RdO l p) (hc:Ok12 cs) (hr:s'.e=0→RepP (rdObj F G) cs x) (nb:Nb b G) (w:Wk G):PFin F l b x s' (.agg cs.toArray) H:=
 .m G hA ho hc hr nb w sp.subG
end
section
variable {F:Base} {ws:Ws} {l:Value} {b:Nat} {p s:St}
theorem skip_q (hW:HasW F ws l) (h:Agr p s) (t:Str):RdQ F l 84 [.string (bs t)] b p (.bool (isS ws s t)) (if isS ws s t then adv p else p):=fun F' hF hb=>by
 rw [← h.is];exact skip_rd F' (hW.mono hF) hb p t
theorem must_q (hW:HasW F ws l) (p:St) (t:Str):RdQ F l 86 [.string (bs t)] b p (.tuple #[]) (mustS ws p t):=fun F' hF hb=>must_rd F' (hW.mono hF) hb p t
theorem fail_q (hW:HasW F ws l) (p:St) (e:Int):RdQ F l 82 [.int .i64 e] b p (.tuple #[]) (failS ws p e):=fun F' hF hb=>fail_rd F' (hW.mono hF) hb p e
theorem take_q (hW:HasW F ws l) (h:Agr p s) (k:Int) (hk:k≠0):RdQ F l 114 [.int .i64 k] b p (.string (bs (takeS ws s k).1)) (takeS ws p k).2:=fun F' hF hb=>by
 rw [← h.take.1];exact take_rd F' (hW.mono hF) hb p k hk
theorem path_q (hws:WsOk ws) (hW:HasW F ws l) (h:Agr p s):RdQ F l 113 [] b p (.string (bs (pathS ws s).1)) (pathS ws p).2:=fun F' hF hb=>by
 rw [← h.path.1];exact path_rd F' hws (hW.mono hF) hb p
theorem uid_q (hws:WsOk ws) (hW:HasW F ws l) (p:St):RdQ F l 102 [] b p (.agg #[.string (bs (uidS ws p).1.1),.string (bs (uidS ws p).1.2)]) (uidS ws p).2:=fun F' hF hb=>uid_rd F' hws (hW.mono hF) hb p
end
theorem all_nil {P:Nat×Obj→Prop}:∀ e∈([]:Hp),P e:=fun e h=>by cases h
theorem all_cons {P:Nat×Obj→Prop} {x:Nat×Obj} {r:Hp} (h1:P x) (h2:∀ e∈r,P e):∀ e∈x::r,P e:=fun e h=>by
 rcases List.mem_cons.1 h with rfl | h
 ·exact h1
 ·exact h2 e h
theorem all_app {P:Nat×Obj→Prop} {r t:Hp} (h1:∀ e∈r,P e) (h2:∀ e∈t,P e):∀ e∈r++t,P e:=fun e h=>by
 rcases List.mem_append.1 h with h | h
 ·exact h1 e h
 ·exact h2 e h
theorem rdObj_hd {F:Base} {b:Nat} {o:Obj} {G:Hp} (h:F b=none):rdObj F ((b,o)::G) b=some o:=by
 unfold rdObj;rw [h];simp [lk]
theorem rdObj_tl {F:Base} {b:Nat} {o:Obj} {G:Hp} (hn:∀ e∈G,e.1≠b) {b':Nat} {o':Obj} (h:rdObj F G b'=some o'):rdObj F ((b,o)::G) b'=some o':=by
 unfold rdObj at *
 cases hF:F b' with
 | some o2=>simpa [hF] using h
 | none=>
  simp only [hF] at h ⊢
  simp only [lk]
  rw [if_neg (fun e=>hn _ (lk_mem h) e.symm)]
  exact h
theorem rep_one {F:Base} {bk T:Nat} {G:Hp} {a:List Value} {x:Ex'} {op:Int} {nm:Str} (hF:F bk=none) (hn:Nb bk G) (hop:I64 op) (ha:RepP (rdObj F G) a x) :
  RepP (rdObj F ((bk,.cells a.toArray T (0,0))::G)) (xcells op lv0 (.slice none 0 0) (.slice none 0 0) nm (.slice (some ⟨bk,0,none⟩) 1 1) (.slice none 0 0)) (oneX' op nm x):=
 repP_node (kids:=[x]) (css:=[a]) (sp:=[]) (T:=T) (fz:=(0,0)) hop (by unfold I64;decide) (by unfold I64;decide) (by rw [rdObj_hd hF];simp) rfl (Nat.le_refl _) (by simp) (fun i c t hc ht=>by
  match i with
  | 0=>simp only [List.getElem?_cons_zero,Option.some.injEq] at hc ht;subst hc ht;exact ha.mono fun _ _=>rdObj_tl hn.all
  | i+1=>simp at hc) slS_nil
theorem rep_two {F:Base} {bk T:Nat} {G:Hp} {a c:List Value} {x y:Ex'} {op:Int} (hF:F bk=none) (hn:Nb bk G) (hop:I64 op) (ha:RepP (rdObj F G) a x) (hc:RepP (rdObj F G) c y) :
  RepP (rdObj F ((bk,.cells (a++c).toArray T (0,0))::G)) (xcells op lv0 (.slice none 0 0) (.slice none 0 0) [] (.slice (some ⟨bk,0,none⟩) 2 2) (.slice none 0 0)) (twoX op x y):=
 repP_node (kids:=[x,y]) (css:=[a,c]) (sp:=[]) (T:=T) (fz:=(0,0)) hop (by unfold I64;decide) (by unfold I64;decide) (by rw [rdObj_hd hF];simp) rfl (Nat.le_refl _) (by simp) (fun i c t hc' ht=>by
  match i with
  | 0=>simp only [List.getElem?_cons_zero,Option.some.injEq] at hc' ht;subst hc' ht;exact ha.mono fun _ _=>rdObj_tl hn.all
  | 1=>simp only [List.getElem?_cons_succ,List.getElem?_cons_zero,Option.some.injEq] at hc' ht;subst hc' ht;exact hc.mono fun _ _=>rdObj_tl hn.all
  | i+2=>simp at hc') slS_nil
theorem rep_if {F:Base} {bk T:Nat} {G:Hp} {a c d:List Value} {x y z:Ex'} {op:Int} (hF:F bk=none) (hn:Nb bk G) (hop:I64 op) (ha:RepP (rdObj F G) a x) (hc:RepP (rdObj F G) c y) (hd:RepP (rdObj F G) d z) :
  RepP (rdObj F ((bk,.cells (a++(c++d)).toArray T (0,0))::G)) (xcells op lv0 (.slice none 0 0) (.slice none 0 0) [] (.slice (some ⟨bk,0,none⟩) 3 3) (.slice none 0 0)) (.mk op lv0 [] [x,y,z] []):=
 repP_node (kids:=[x,y,z]) (css:=[a,c,d]) (sp:=[]) (T:=T) (fz:=(0,0)) hop (by unfold I64;decide) (by unfold I64;decide) (by rw [rdObj_hd hF];simp) rfl (Nat.le_refl _) (by simp) (fun i c t hc' ht=>by
  match i with
  | 0=>simp only [List.getElem?_cons_zero,Option.some.injEq] at hc' ht;subst hc' ht;exact ha.mono fun _ _=>rdObj_tl hn.all
  | 1=>simp only [List.getElem?_cons_succ,List.getElem?_cons_zero,Option.some.injEq] at hc' ht;subst hc' ht;exact hc.mono fun _ _=>rdObj_tl hn.all
  | 2=>simp only [List.getElem?_cons_succ,List.getElem?_cons_zero,Option.some.injEq] at hc' ht;subst hc' ht;exact hd.mono fun _ _=>rdObj_tl hn.all
  | i+3=>simp at hc') slS_nil
theorem methods_pure (F:Base) (t:Str):PureV Tryz.prog F 127 #[.string (bs t)] (.int .i64 (methI t)):=by
 refine pureV_of_svc mixed Tryz.func127 low127 (Nat.le_of_ble_eq_true rfl) (fun w0=>?_)
 simp (disch:=first | assumption | exact .symm ‹_› | omega) only [fu127,↓ZD,ZW,simprocAttr]
 unfold methI
 simp only [beq_iff_eq,beq_eq_false_iff_ne]
 refine ⟨fun h=>by rw [if_pos h],fun h=>?_⟩
 rw [if_neg h]
 refine ⟨fun h=>by rw [if_pos h],fun h=>?_⟩
 rw [if_neg h]
 exact ⟨fun h=>by rw [if_pos h],fun h=>by rw [if_neg h]⟩
theorem lit_pure (F:Base) (v:LV):PureV Tryz.prog F 128 #[.agg (v.cells (.slice none 0 0) (.slice none 0 0)).toArray] (.agg (xcells 1 v (.slice none 0 0) (.slice none 0 0) [] (.slice none 0 0) (.slice none 0 0)).toArray):=by
 refine pureV_of_svc mixed Tryz.func128 low128 (Nat.le_of_ble_eq_true rfl) (fun w0=>?_)
 unfold LV.cells
 simp (disch:=first | assumption | exact .symm ‹_› | omega) only [fu128,↓ZD,ZW,simprocAttr]
 refine NewB.of fun b1 hb1 hF1=>?_
 simp (disch:=first | assumption | exact .symm ‹_› | omega) only [hF1,↓ZD,ZW,simprocAttr]
 refine NewB.of fun b2 hb2 hF2=>?_
 simp only [List.forall_mem_cons,List.not_mem_nil,false_implies,implies_true,and_true] at hb2
 simp (disch:=first | assumption | exact .symm ‹_› | omega) only [hF1,hF2,↓ZD,ZW,simprocAttr]
 rfl
theorem two_does (F:Base) (op:Int) (a c:List Value) (ha:a.length=12) (hc:c.length=12):Does Tryz.prog F 105 #[.int .i64 op,.agg a.toArray,.agg c.toArray] [] (fun r H'=>∃ bk,r=.agg (xcells op lv0 (.slice none 0 0) (.slice none 0 0) [] (.slice (some ⟨bk,0,none⟩) 2 2) (.slice none 0 0)).toArray∧H'=[(bk,.cells (a++c).toArray 31 (0,0))]):=by
 refine Does.shr (K:=fun r H'=>∃ bk,r=.agg (xcells op lv0 (.slice none 0 0) (.slice none 0 0) [] (.slice (some ⟨bk,0,none⟩) 2 2) (.slice none 0 0)).toArray∧(bk,.cells (a++c).toArray 31 (0,0))∈H') ?_ fun r H' ⟨bk,h1,h2⟩=>⟨[_],by simpa using h2,bk,h1,rfl⟩
 refine does_of_svc (args:=[.int .i64 op,.agg a.toArray,.agg c.toArray]) mixed Tryz.func105 low105 (Nat.le_of_ble_eq_true rfl) (fun w0 hw0=>?_)
 have t1:∀ r,(a++r).take 12=a:=fun r=>List.take_left' ha
 have t0:a.take 12=a:=List.take_of_length_le (Nat.le_of_eq ha)
 have t2:c.take 12=c:=List.take_of_length_le (Nat.le_of_eq hc)
 simp (disch:=first | assumption | exact .symm ‹_› | omega) only [fu105,ha,hc,t0,t2,↓ZD,ZW,simprocAttr]
 refine NewB.of fun b1 hb1 hF1=>?_
 simp (disch:=first | assumption | exact .symm ‹_› | omega) only [hF1,ha,hc,t0,t2,↓ZD,ZW,simprocAttr]
 refine NewB.of fun b2 hb2 hF2=>?_
 simp only [List.forall_mem_cons,List.not_mem_nil,false_implies,implies_true,and_true] at hb2
 simp (disch:=first | assumption | exact .symm ‹_› | omega) only [hF1,hF2,ha,hc,t0,t2,↓ZD,ZW,simprocAttr]
 refine NewB.of fun b3 hb3 hF3=>?_
 simp only [List.forall_mem_cons,List.not_mem_nil,false_implies,implies_true,and_true] at hb3
 obtain ⟨hb31,hb32⟩:=hb3
 have d2:List.drop 24 (a++zx)=[]:=List.drop_eq_nil_of_le (by simp [ha])
 simp (disch:=first | assumption | exact .symm ‹_› | omega) only [hF1,hF2,hF3,ha,hc,t0,t1,t2,d2,↓ZD,ZW,simprocAttr]
 refine NewB.of fun b4 hb4 hF4=>?_
 simp only [List.forall_mem_cons,List.not_mem_nil,false_implies,implies_true,and_true] at hb4
 obtain ⟨hb41,hb42,hb43⟩:=hb4
 simp (disch:=first | assumption | exact .symm ‹_› | omega) only [hF1,hF2,hF3,hF4,ha,hc,t0,t1,t2,↓ZD,ZW,simprocAttr]
 exact ⟨b4,rfl,List.mem_cons_self⟩
section
variable {X:List Nat} {F:Base} {w0:World} {H:Hp} {K:Value→Hp→Prop}
theorem CallE.two {op:Int} {a c:List Value} {x y:Ex'} {P:Prop} {Hl G:Hp} [tl:Tl H Hl G] (hop:I64 op) (ra:P→RepP (rdObj F G) a x) (rc:P→RepP (rdObj F G) c y) (ha:Ok12 a) (hc:Ok12 c) (sd:Dj Hl G∧Wk G)
  (hk:∀ cs G',(P→RepP (rdObj F G') cs (twoX op x y))→Ok12 cs∧Dj Hl G'∧(∀ b o,rdObj F G b=some o→rdObj F G' b=some o)∧Wk G'→K (.agg cs.toArray) (Hl++G')) :
  @CallE Tryz.prog X F w0 105 #[.int .i64 op,.agg a.toArray,.agg c.toArray] H ⟨K⟩:=by
 obtain ⟨dG,wG⟩:=sd
 obtain rfl:=tl.eq
 refine CallG.shr (K:=fun v H'=>∃ bk,(∀ e∈Hl++G,e.1≠bk)∧F bk=none∧v=.agg (xcells op lv0 (.slice none 0 0) (.slice none 0 0) [] (.slice (some ⟨bk,0,none⟩) 2 2) (.slice none 0 0)).toArray∧H'=(Hl++G)++[(bk,.cells (a++c).toArray 31 (0,0))]) (CallE.news (two_does (rdObj F (Hl++G)) op a c ha.1 hc.1) ?_) ?_
 ·rintro v H' ⟨bk,h1,rfl⟩ h2 h3 _
  exact ⟨bk,fun e he=>(h3 e he _ (List.mem_singleton.2 rfl)).symm,h2 _ (List.mem_singleton.2 rfl),h1,rfl⟩
 ·rintro v H' ⟨bk,h1,h2,rfl,rfl⟩
  have hn:Nb bk G:=Nb.of fun e he=>h1 e (List.mem_append_right _ he)
  refine ⟨Hl++((bk,.cells (a++c).toArray 31 (0,0))::G),?_,hk _ _ (fun hP=>rep_two h2 hn hop (ra hP) (rc hP)) ⟨⟨rfl,rfl,rfl,rfl⟩,Dj.iff.2 fun e he=>all_cons (h1 e (List.mem_append_left _ he)).symm (Dj.iff.1 dG e he),fun _ _=>rdObj_tl hn.all,wG.cb hn⟩⟩
  intro e he
  simp only [List.mem_append,List.mem_cons,List.mem_singleton] at he ⊢
  rcases he with h | h | h <;> simp [h]
end
def outW (p:St):St:=⟨p.p,IntKind.i64.wrap (p.deep - 1),p.e,p.bad⟩
theorem outW_agr {p s t:St} (h:Agr p s) (hg:Good t) (hd:s.e=0→t.e=0∧s.deep=t.deep+1):Agr (outW p) (out1 s):=by
 by_cases he:s.e=0
 ·obtain rfl:=h.ok he
  obtain ⟨h1,h2⟩:=hd he
  have:=hg h1
  refine .inl ?_
  unfold outW out1
  congr 1
  rw [wrap_i64];omega
 ·exact .inr ⟨he,h.e,h.bad⟩
theorem dfr_does (F:Base) {l:Value} {b b2 T:Nat} {fz:Nat×Nat} (hFb:F b=none) (h2:F b2=some (.cells #[.pointer (some ⟨b,0,none⟩)] T fz)) (p:St):DoesD Tryz.prog F 83 #[.pointer (some ⟨b2,0,none⟩)] [(b,RdO l p)] (fun H'=>H'=[(b,RdO l (outW p))]):=by
 refine doesD_of_svc (args:=[.pointer (some ⟨b2,0,none⟩)]) mixed Tryz.func83 low83 (Nat.le_of_ble_eq_true rfl) fun w0 hw0=>?_
 simp (disch:=first | assumption | exact .symm ‹_› | omega) only [fu83,hFb,h2,↓ZD,ZW,simprocAttr]
 rfl
def sd56:SD:=SD.seq (SD.low (SC.reg [SO.mk (some 2) (S.box 82 (X.t 0)) none Kind.e,SO.mk (some 4) (S.alloc 31 zx) none Kind.e])) (SD.seq (SD.low (SC.seq (SC.reg [SO.mk (some 5) (S.ld 1 false (X.t 2)) none Kind.q,SO.mk (some 6) (S.nck (X.t 5)) none Kind.q,SO.mk (some 7) (S.add 2 (X.t 6)) none Kind.q,SO.mk (some 8) (S.ld 1 false (X.t 7)) none Kind.q,SO.mk (some 9) (S.bin BinOp.geq (X.t 8) (X.c (Value.int IntKind.i64 50))) none Kind.q]) (SC.cond (X.t 9) (SC.reg [SO.mk (some 10) (S.ld 1 false (X.t 2)) none Kind.q,SO.mk (some 11) (S.call 82 [X.t 10,X.c (Value.int IntKind.i64 11)]) none Kind.e]) SC.skip))) (SD.seq (SD.low (SC.seq (SC.reg [SO.mk (some 12) (S.ld 1 false (X.t 2)) none Kind.q,SO.mk (some 13) (S.nck (X.t 12)) none Kind.q,SO.mk (some 14) (S.add 3 (X.t 13)) none Kind.q,SO.mk (some 15) (S.ld 1 false (X.t 14)) none Kind.q,SO.mk (some 16) (S.bin BinOp.neq (X.t 15) (X.c (Value.int IntKind.i64 0))) none Kind.q]) (SC.cond (X.t 16) (SC.seq (SC.reg [SO.mk (some 17) (S.build zx []) none Kind.q,SO.mk none (S.store 12 (X.t 4) (X.t 17)) none Kind.e]) SC.ret) SC.skip))) (SD.seq (SD.low (SC.reg [SO.mk (some 18) (S.ld 1 false (X.t 2)) none Kind.q,SO.mk (some 19) (S.nck (X.t 18)) none Kind.q,SO.mk (some 20) (S.add 2 (X.t 19)) none Kind.q,SO.mk (some 21) (S.ld 1 false (X.t 20)) none Kind.q,SO.mk (some 22) (S.bin BinOp.add (X.t 21) (X.c (Value.int IntKind.i64 1))) none Kind.q,SO.mk (some 23) (S.nck (X.t 18)) none Kind.q,SO.mk (some 24) (S.add 2 (X.t 23)) none Kind.q,SO.mk none (S.store 1 (X.t 24) (X.t 22)) none Kind.e])) (SD.seq (SD.dfr [SO.mk (some 25) (S.mkF (Fn.func 83) [] [X.t 2]) none Kind.q] (X.t 25) []) (SD.low (SC.seq (SC.reg [SO.mk (some 26) (S.mv (X.t 1)) none Kind.q,SO.mk (some 27) (S.ld 1 false (X.t 2)) none Kind.q,SO.mk (some 28) (S.callV (X.t 26) [X.t 27]) none Kind.e,SO.mk none (S.store 12 (X.t 4) (X.t 28)) none Kind.e]) SC.ret))))))
theorem bod56:Tryz.f56.body=some (Tryz.f56.body.getD .skip):=by kernel_rfl
theorem lowd56:lowD Tryz.prog Tryz.f56.ntmps [] (Tryz.f56.body.getD .skip)=some sd56:=by kernel_rfl
theorem rvd56:lowR Tryz.prog Tryz.f56.results.toList=some [RV.cell 4 12 true]:=by kernel_rfl
theorem dfr_call:callable Tryz.prog 83=true:=by kernel_rfl
def nestR (ws:Ws) (R:St→Option (Ex'×St)) (s:St):Option (Ex'×St):=if s.e=0 then (if 50≤s.deep then some (nilX,failS ws s 11) else (R (inn s)).map fun y=>(y.1,out1 y.2)) else some (nilX,s)
theorem nested_does (F:Base) {ws:Ws} {l:Value} (hW:HasW F ws l) {g:Nat} {R:St→Option (Ex'×St)} (hc:callable Tryz.prog g=true) (hR:Prs F l g R) (hgo:∀ s y,R s=some y→Fwd 0 s y.2) {b:Nat} {p s s':St} {x:Ex'} (hFb:F b=none) (hA:Agr p s) (hg:Good s) (h:nestR ws R s=some (x,s')) :
  Does Tryz.prog F 56 #[.pointer (some ⟨b,0,none⟩),.func (.func g) #[] #[]] [(b,RdO l p)] (PPost F l b x s'):=by
 refine Does.fin fun w1 hw1=>?_
 refine callG_of_svd (args:=[.pointer (some ⟨b,0,none⟩),.func (.func g) #[] #[]]) mixed Tryz.func56 bod56 lowd56 rvd56 (Nat.le_of_ble_eq_true rfl) ?_
 simp only [sd56,svd]
 simp only [*,↓ZD,ZW,RO,simprocAttr]
 refine NewB.n ?_
 rintro b2 ⟨_,_,_⟩ hF2
 simp only [*,↓ZD,ZW,RO,simprocAttr]
 refine NewB.n ?_
 rintro b4 ⟨_,_,nR4,_,_⟩ hF4
 simp only [*,↓ZD,ZW,RO,simprocAttr]
 unfold nestR at h
 refine ⟨fun hd=>?_,fun hd=>⟨fun he=>?_,fun he=>?_⟩⟩
 ·refine CallE.rdq (fail_q hW p 11) rfl (by simp only [*,↓ZD,ZW,RO,simprocAttr]) ?_
  have hs:Agr (failS ws p 11) s'∧s'.e≠0:=by
   by_cases he:s.e=0
   ·obtain rfl:=hA.ok he
    rw [if_pos he,if_pos (of_decide_eq_true hd)] at h
    simp only [Option.some.injEq,Prod.mk.injEq] at h
    obtain ⟨-,rfl⟩:=h
    exact ⟨.inl rfl,failS_e (by decide)⟩
   ·rw [if_neg he] at h
    simp only [Option.some.injEq,Prod.mk.injEq] at h
    obtain ⟨-,rfl⟩:=h
    exact ⟨by rw [failS_err (by rw [hA.e];exact he)];exact hA,he⟩
  have hne:((failS ws p 11).e != 0)=true:=by simpa using failS_e (by decide)
  simp only [*,finD,↓ZD,ZW,RO,simprocAttr]
  exact PFin.m [] hs.1 rfl ⟨rfl,rfl,rfl,rfl⟩ (fun h=>absurd h hs.2) trivial Wk.nil all_nil
 ·have he':s.e≠0:=by rw [← hA.e];simpa using he
  rw [if_neg he'] at h
  simp only [Option.some.injEq,Prod.mk.injEq] at h
  obtain ⟨-,rfl⟩:=h
  simp only [*,finD,↓ZD,ZW,RO,simprocAttr]
  exact PFin.m [] hA rfl ⟨rfl,rfl,rfl,rfl⟩ (fun h=>absurd h he') trivial Wk.nil all_nil
 ·have he':s.e=0:=by rw [← hA.e];simpa using he
  obtain rfl:=hA.ok he'
  have hdp:=hg he'
  rw [if_pos he',if_neg (of_decide_eq_false hd)] at h
  obtain ⟨⟨x1,s1⟩,h1,h2⟩:=map_some' h
  simp only [Prod.mk.injEq] at h2
  obtain ⟨rfl,rfl⟩:=h2
  have hd50:=of_decide_eq_false hd
  have hw:IntKind.i64.wrap (p.deep+1)=p.deep+1:=by rw [wrap_i64];omega
  refine CallEF.par (p:=inn p) hc hR Agr.rfl' (fun he=>by show 0≤p.deep+1∧p.deep+1≤50;omega) h1 (by simp [inn,hw]) (by simp only [*,↓ZD,ZW,RO,simprocAttr]) ?_
  rintro p1 cs1 G1 hA1 hr1 ⟨_,nG,⟨_,_,_⟩,_,_⟩
  simp only [*,finD,↓ZD,ZW,RO,simprocAttr]
  refine ⟨_,_,rfl,dfr_call,CallDG.frame (F1:=rdObj F [(b2,.cells #[.pointer (some ⟨b,0,none⟩)] 82 (0,0))]) (H0:=[(b,RdO l p1)]) (Hr:=[(b4,.cells cs1.toArray 31 (0,0)),(b2,.cells #[.pointer (some ⟨b,0,none⟩)] 82 (0,0))]++G1) (dfr_does _ (by simp [rdObj,lk, *]) (rdObj_hd hF2) p1) ?_ (by simp) ?_ ?_ ?_⟩
  ·exact fun _ _ h=>rdObj_sub (by simp [lk, *]) h
  ·simp +contextual
  ·exact all_app (all_cons (by simpa using nR4) (all_cons (by simp [*]) all_nil)) fun e he e2 he2=>by rw [List.mem_singleton.1 he2];exact (nG.all e he).symm
  ·rintro _ rfl - - -
   simp only [*,↓ZD,ZW,RO,simprocAttr]
   refine ⟨outW p1,cs1,G1,outW_agr hA1 hg fun he=>?_,rfl,‹_›,hr1,nG.all,‹_›,by simp,by simp +contextual⟩
   obtain ⟨k1,_,k3⟩:=hgo _ _ h1 he
   exact ⟨k1,k3⟩
theorem i64_lit {n:Int} (h:(decide (0≤n)&&decide (n≤100))=true):I64 n:=by
 rw [Bool.and_eq_true,decide_eq_true_eq,decide_eq_true_eq] at h;unfold I64;omega
theorem tk12 {cs:List Value} (h:Ok12 cs) (r:List Value):(cs++r).take 12=cs:=List.take_left' h.1
theorem tk24 {cs:List Value} (h:Ok12 cs) (r:List Value):(cs++r).take 24=cs++r.take 12:=by
 rw [List.take_append,h.1,List.take_of_length_le (by have:=h.1;omega)]
theorem dr12 {cs:List Value} (h:Ok12 cs) (r:List Value):(cs++r).drop 12=r:=List.drop_left' h.1
theorem dr24 {cs:List Value} (h:Ok12 cs) (r:List Value):(cs++r).drop 24=r.drop 12:=by
 rw [show (24:Nat)=12+12 from rfl,← List.drop_drop,dr12 h]
theorem dr36 {cs:List Value} (h:Ok12 cs) (r:List Value):(cs++r).drop 36=r.drop 24:=by
 rw [show (36:Nat)=12+24 from rfl,← List.drop_drop,dr12 h]
theorem or_self {p s:St} (h:Agr p s) {ws:Ws} {t:Str}:isS ws p t=isS ws s t:=h.is
theorem choice_prs (F:Base) {ws:Ws} {l:Value} (hW:HasW F ws l) (n:Nat) (h1:Prs F l 25 (G ws n .expr)) (h2:Prs F l 85 (G ws n (.lev 0))):Prs F l 57 (choiceG ws (G ws n)):=by
 intro F' hFF b p s x s' hFb hA hg hR
 have hW:=hW.mono hFF
 refine Does.fin (does_of_svc (args:=[.pointer (some ⟨b,0,none⟩)]) mixed Tryz.func57 low57 (Nat.le_of_ble_eq_true rfl) fun w0 hw0=>?_)
 simp only [*,fu57,↓ZD,ZW,RO,simprocAttr]
 refine NewB.n ?_
 rintro b1 ⟨_,_,_⟩ _
 simp only [*,↓ZD,ZW,RO,simprocAttr]
 refine CallE.rdq (skip_q hW hA [105,102]) rfl (by simp only [*,↓ZD,ZW,RO,simprocAttr]) ?_
 unfold choiceG at hR
 cases hi:isS ws s [105,102] with
 | false=>
  rw [hi,if_neg (by decide)] at hR
  simp only [*,↓ZD,ZW,RO,simprocAttr]
  refine CallE.par (h2.mono hFF) hA hg hR rfl (by simp only [*,↓ZD,ZW,RO,simprocAttr]) ?_
  rintro p1 cs1 G1 hA1 hr1 ⟨_,_,⟨_,_⟩,hx1,_⟩
  simp only [*,↓ZD,ZW,RO,simprocAttr]
  exact PFin.g hA1 rfl ‹_› hr1 ‹_› ‹_›
 | true=>
  rw [hi,if_pos rfl] at hR
  obtain ⟨⟨x1,s1⟩,hR1,hR⟩:=bind_some hR
  obtain ⟨⟨x2,s2⟩,hR2,hR⟩:=bind_some hR
  obtain ⟨⟨x3,s3⟩,hR3,hR⟩:=map_some' hR
  simp only [Prod.mk.injEq] at hR
  obtain ⟨rfl,rfl⟩:=hR
  simp only at hR2 hR3
  have hg1:=hg.adv.go hR1
  have hg2:=hg1.must.go hR2
  have h3a:s3.e=0→s2.e=0:=fun he=>must_e (G_goes ws n _ _ _ hR3 he).1
  have h2a:s3.e=0→s1.e=0:=fun he=>must_e (G_goes ws n _ _ _ hR2 (h3a he)).1
  simp only [*,↓ZD,ZW,RO,simprocAttr]
  refine CallE.par (h1.mono hFF) hA.adv hg.adv hR1 rfl (by simp only [*,↓ZD,ZW,RO,simprocAttr]) ?_
  rintro p1 cs1 G1 hA1 hr1 ⟨_,_,⟨_,_⟩,hx1,_⟩
  simp only [*,↓ZD,ZW,RO,simprocAttr]
  refine NewB.n ?_
  rintro b2 ⟨_,_,_,_,_⟩ _
  simp only [*,↓ZD,ZW,RO,simprocAttr]
  refine CallE.rdq (must_q hW p1 [116,104,101,110]) rfl (by simp only [*,↓ZD,ZW,RO,simprocAttr]) ?_
  simp only [*,↓ZD,ZW,RO,simprocAttr]
  refine CallE.par (h1.mono hFF) hA1.must hg1.must hR2 rfl (by simp only [*,↓ZD,ZW,RO,simprocAttr]) ?_
  rintro p2 cs2 G2 hA2 hr2 ⟨_,_,⟨_,_,_⟩,hx2,_⟩
  simp only [*,↓ZD,ZW,RO,simprocAttr]
  refine NewB.n ?_
  rintro b3 ⟨_,_,_,_,_,_,_⟩ _
  simp only [*,↓ZD,ZW,RO,simprocAttr]
  refine CallE.rdq (must_q hW p2 [101,108,115,101]) rfl (by simp only [*,↓ZD,ZW,RO,simprocAttr]) ?_
  simp only [*,↓ZD,ZW,RO,simprocAttr]
  refine CallE.par (h1.mono hFF) hA2.must hg2.must hR3 rfl (by simp only [*,↓ZD,ZW,RO,simprocAttr]) ?_
  rintro p3 cs3 G3 hA3 hr3 ⟨_,_,⟨_,_,_,_⟩,hx3,_⟩
  simp only [*,↓ZD,ZW,RO,simprocAttr]
  refine NewB.n ?_
  rintro b4 ⟨_,_,_,_,_,_,_,_,_⟩ _
  simp only [*,↓ZD,ZW,RO,simprocAttr]
  have c1:=‹Ok12 cs1›
  have c2:=‹Ok12 cs2›
  have c3:=‹Ok12 cs3›
  simp only [*,tk12 c1,tk24 c1,dr12 c1,dr24 c1,dr36 c1,tk12 c2,tk24 c2,dr12 c2,dr24 c2,dr36 c2,tk12 c3,tk24 c3,dr12 c3,dr24 c3,dr36 c3,List.append_assoc,↓ZD,ZW,RO,simprocAttr]
  refine NewB.n ?_
  rintro b5 ⟨_,_,_,_,_,_,_,_,_,_,_⟩ _
  simp only [*,↓ZD,ZW,RO,simprocAttr]
  exact PFin.m _ hA3 rfl ⟨rfl,rfl,rfl,rfl⟩ (fun he=>rep_if (T:=31) ‹_› ‹_› (i64_lit rfl) (((hr1 (h2a he)).mono hx2).mono hx3) ((hr2 (h3a he)).mono hx3) (hr3 he)) (by simp only [*,↓ZD,ZW,RO,simprocAttr]) (Wk.cb ‹_› ‹_›) (by simp +contextual)
theorem call_choice:callable Tryz.prog 57=true:=by kernel_rfl
theorem call_prefix:callable Tryz.prog 124=true:=by kernel_rfl
theorem prefix_prs (F:Base) {ws:Ws} {l:Value} (hW:HasW F ws l) (n:Nat) (h1:Prs F l 123 (G ws n .unary)) (h2:Prs F l 125 (G ws n .member)):Prs F l 124 (prefG ws (G ws n)):=by
 intro F' hFF b p s x s' hFb hA hg hR
 have hW:=hW.mono hFF
 refine Does.fin (does_of_svc (args:=[.pointer (some ⟨b,0,none⟩)]) mixed Tryz.func124 low124 (Nat.le_of_ble_eq_true rfl) fun w0 hw0=>?_)
 simp only [*,fu124,↓ZD,ZW,RO,simprocAttr]
 refine NewB.n ?_
 rintro b1 ⟨_,_,_⟩ _
 simp only [*,↓ZD,ZW,RO,simprocAttr]
 unfold prefG at hR
 refine CallE.rdq (skip_q hW hA [33]) rfl (by simp only [*,↓ZD,ZW,RO,simprocAttr]) ?_
 cases hi:isS ws s [33] with
 | true=>
  rw [hi,if_pos rfl] at hR
  obtain ⟨⟨x1,s1⟩,hR1,hR⟩:=map_some' hR
  simp only [Prod.mk.injEq] at hR
  obtain ⟨rfl,rfl⟩:=hR
  simp only [*,↓ZD,ZW,RO,simprocAttr]
  refine CallE.par (h1.mono hFF) hA.adv hg.adv hR1 rfl (by simp only [*,↓ZD,ZW,RO,simprocAttr]) ?_
  rintro p1 cs1 G1 hA1 hr1 ⟨_,_,⟨_,_⟩,hx1,_⟩
  simp only [*,↓ZD,ZW,RO,simprocAttr]
  refine NewB.n ?_
  rintro b2 ⟨_,_,_,_,_⟩ _
  simp only [*,↓ZD,ZW,RO,simprocAttr]
  exact PFin.m _ hA1 rfl ⟨rfl,rfl,rfl,rfl⟩ (fun he=>rep_one (T:=31) ‹_› ‹_› (i64_lit rfl) (hr1 he)) (by simp only [*,↓ZD,ZW,RO,simprocAttr]) (Wk.cb ‹_› ‹_›) (by simp +contextual)
 | false=>
  rw [hi,if_neg (by decide)] at hR
  simp only [*,↓ZD,ZW,RO,simprocAttr]
  clear hi
  refine CallE.rdq (skip_q hW hA [45]) rfl (by simp only [*,↓ZD,ZW,RO,simprocAttr]) ?_
  cases hi:isS ws s [45] with
  | true=>
   rw [hi,if_pos rfl] at hR
   obtain ⟨⟨x1,s1⟩,hR1,hR⟩:=map_some' hR
   simp only [Prod.mk.injEq] at hR
   obtain ⟨rfl,rfl⟩:=hR
   simp only [*,↓ZD,ZW,RO,simprocAttr]
   refine CallE.par (h1.mono hFF) hA.adv hg.adv hR1 rfl (by simp only [*,↓ZD,ZW,RO,simprocAttr]) ?_
   rintro p1 cs1 G1 hA1 hr1 ⟨_,_,⟨_,_⟩,hx1,_⟩
   simp only [*,↓ZD,ZW,RO,simprocAttr]
   refine NewB.n ?_
   rintro b2 ⟨_,_,_,_,_⟩ _
   simp only [*,↓ZD,ZW,RO,simprocAttr]
   exact PFin.m _ hA1 rfl ⟨rfl,rfl,rfl,rfl⟩ (fun he=>rep_one (T:=31) ‹_› ‹_› (i64_lit rfl) (hr1 he)) (by simp only [*,↓ZD,ZW,RO,simprocAttr]) (Wk.cb ‹_› ‹_›) (by simp +contextual)
  | false=>
   rw [hi,if_neg (by decide)] at hR
   simp only [*,↓ZD,ZW,RO,simprocAttr]
   clear hi
   refine CallE.par (h2.mono hFF) hA hg hR rfl (by simp only [*,↓ZD,ZW,RO,simprocAttr]) ?_
   rintro p1 cs1 G1 hA1 hr1 ⟨_,_,⟨_,_⟩,hx1,_⟩
   simp only [*,↓ZD,ZW,RO,simprocAttr]
   exact PFin.g hA1 rfl ‹_› hr1 ‹_› ‹_›
theorem expr_prs (F:Base) {ws:Ws} {l:Value} (hW:HasW F ws l) (R:St→Option (Ex'×St)) (hgo:∀ s y,R s=some y→Fwd 0 s y.2) (h1:Prs F l 57 R):Prs F l 25 (nestR ws R):=by
 intro F' hFF b p s x s' hFb hA hg hR
 have hW:=hW.mono hFF
 refine Does.fin (does_of_svc (args:=[.pointer (some ⟨b,0,none⟩)]) mixed Tryz.func25 low25 (Nat.le_of_ble_eq_true rfl) fun w0 hw0=>?_)
 simp only [*,fu25,↓ZD,ZW,RO,simprocAttr]
 refine NewB.n ?_
 rintro b1 ⟨_,_,_⟩ _
 simp only [*,↓ZD,ZW,RO,simprocAttr]
 refine CallG.prs (fun F2 hF2 _ hb2=>nested_does F2 (hW.mono hF2) call_choice ((h1.mono hFF).mono hF2) hgo hb2 hA hg hR) rfl (by simp only [*,↓ZD,ZW,RO,simprocAttr]) ?_
 rintro p1 cs1 G1 hA1 hr1 ⟨_,_,⟨_,_⟩,hx1,_⟩
 simp only [*,↓ZD,ZW,RO,simprocAttr]
 exact PFin.g hA1 rfl ‹_› hr1 ‹_› ‹_›
theorem unary_prs (F:Base) {ws:Ws} {l:Value} (hW:HasW F ws l) (R:St→Option (Ex'×St)) (hgo:∀ s y,R s=some y→Fwd 0 s y.2) (h1:Prs F l 124 R):Prs F l 123 (nestR ws R):=by
 intro F' hFF b p s x s' hFb hA hg hR
 have hW:=hW.mono hFF
 refine Does.fin (does_of_svc (args:=[.pointer (some ⟨b,0,none⟩)]) mixed Tryz.func123 low123 (Nat.le_of_ble_eq_true rfl) fun w0 hw0=>?_)
 simp only [*,fu123,↓ZD,ZW,RO,simprocAttr]
 refine NewB.n ?_
 rintro b1 ⟨_,_,_⟩ _
 simp only [*,↓ZD,ZW,RO,simprocAttr]
 refine CallG.prs (fun F2 hF2 _ hb2=>nested_does F2 (hW.mono hF2) call_prefix ((h1.mono hFF).mono hF2) hgo hb2 hA hg hR) rfl (by simp only [*,↓ZD,ZW,RO,simprocAttr]) ?_
 rintro p1 cs1 G1 hA1 hr1 ⟨_,_,⟨_,_⟩,hx1,_⟩
 simp only [*,↓ZD,ZW,RO,simprocAttr]
 exact PFin.g hA1 rfl ‹_› hr1 ‹_› ‹_›
def mops:Nat→List (Str×Int)
 | 0=>[([124,124],5)]
 | 1=>[([38,38],4)]
 | 2=>[([43],11),([45],12)]
 | _=>[([42],13)]
def mcells (l:List (Str×Int)):List Value:=l.flatMap fun m=>[.string (bs m.1),.int .i64 m.2]
theorem mops_cases (k:Nat):mops k=[([124,124],5)]∨mops k=[([38,38],4)]∨mops k=[([43],11),([45],12)]∨mops k=[([42],13)]:=by
 match k with
 | 0=>exact .inl rfl
 | 1=>exact .inr (.inl rfl)
 | 2=>exact .inr (.inr (.inl rfl))
 | k+3=>exact .inr (.inr (.inr rfl))
theorem op_none {ws:Ws} {k:Nat} {s:St} (h:idxI (fun m:Str×Int=>isS ws s m.1) (mops k) < 0):opAt ws k s=0:=by
 match k with
 | 0=>simp only [mops,idxI] at h;simp only [opAt];cases h0:isS ws s [124,124] <;> simp_all
 | 1=>simp only [mops,idxI] at h;simp only [opAt];cases h0:isS ws s [38,38] <;> simp_all
 | 2=>simp only [mops,idxI] at h;simp only [opAt];cases h0:isS ws s [43] <;> cases h1:isS ws s [45] <;> simp_all
 | k+3=>simp only [mops,idxI] at h;simp only [opAt];cases h0:isS ws s [42] <;> simp_all
theorem idx1 {α:Type} {q:α→Bool} {a:α} {i:Nat} (h:idxI q [a]=i):i=0∧q a=true:=by
 simp only [idxI] at h
 cases hq:q a with
 | true=>simp only [hq,if_true] at h;exact ⟨by omega,rfl⟩
 | false=>simp [hq] at h
theorem idx2 {α:Type} {q:α→Bool} {a c:α} {i:Nat} (h:idxI q [a,c]=i):(i=0∧q a=true)∨(i=1∧q a=false∧q c=true):=by
 simp only [idxI] at h
 cases hq:q a <;> cases hr:q c <;> simp [hq,hr] at h <;> first | exact .inl ⟨by omega,rfl⟩ | exact .inr ⟨by omega,rfl,rfl⟩ | omega
theorem op_some {ws:Ws} {k:Nat} {s:St} {i:Nat} (h:idxI (fun m:Str×Int=>isS ws s m.1) (mops k)=i):i < (mops k).length∧opAt ws k s=((mops k).getD i ([],0)).2∧opAt ws k s≠0∧I64 (opAt ws k s)∧∃ t,isS ws s t=true:=by
 match k with
 | 0=>obtain ⟨rfl,hq⟩:=idx1 h;have e:opAt ws 0 s=5:=if_pos hq;rw [e];exact ⟨by decide,rfl,by decide,i64_lit rfl,_,hq⟩
 | 1=>obtain ⟨rfl,hq⟩:=idx1 h;have e:opAt ws 1 s=4:=if_pos hq;rw [e];exact ⟨by decide,rfl,by decide,i64_lit rfl,_,hq⟩
 | 2=>
  rcases idx2 h with ⟨rfl,hq⟩ | ⟨rfl,hq,hr⟩
  ·have e:opAt ws 2 s=11:=if_pos hq
   rw [e];exact ⟨by decide,rfl,by decide,i64_lit rfl,_,hq⟩
  ·simp only at hq hr
   have e:opAt ws 2 s=12:=by simp only [opAt,hq,hr];rfl
   rw [e];exact ⟨by decide,rfl,by decide,i64_lit rfl,_,hr⟩
 | k+3=>obtain ⟨rfl,hq⟩:=idx1 h;have e:opAt ws (k+3) s=13:=if_pos hq;rw [e];exact ⟨by simp [mops],rfl,by decide,i64_lit rfl,_,hq⟩
theorem mcells_len (l:List (Str×Int)):(mcells l).length=l.length * 2:=by
 induction l with
 | nil=>rfl
 | cons x l ih=>unfold mcells at *;rw [List.flatMap_cons,List.length_append,ih];simp;omega
theorem mcells_at {l:List (Str×Int)} {T:Nat} {fz:Nat×Nat} {i:Nat} (h:i < l.length) :
  cellsO (some (.cells (mcells l).toArray T fz)) (i * 2) 2=some [.string (bs (l.getD i ([],0)).1),.int .i64 (l.getD i ([],0)).2]∧cellsO (some (.cells (mcells l).toArray T fz)) (i * 2+1) 1=some [.int .i64 (l.getD i ([],0)).2]:=by
 have key:(mcells l).drop (i * 2)=.string (bs (l.getD i ([],0)).1)::.int .i64 (l.getD i ([],0)).2::mcells (l.drop (i+1)):=by
  induction l generalizing i with
  | nil=>simp at h
  | cons x l ih=>
   cases i with
   | zero=>rfl
   | succ i=>
    have:=ih (i:=i) (by simpa using h)
    rw [show (i+1) * 2=2+i * 2 by omega,← List.drop_drop]
    exact this
 have hl:=mcells_len l
 refine ⟨?_,?_⟩
 ·rw [cellsO_of,if_pos (by omega),key];rfl
 ·rw [cellsO_of,if_pos (by omega),← List.drop_drop,key];rfl
theorem idxM_pure (F:Base) {bm T:Nat} {fz:Nat×Nat} {l:List (Str×Int)} {q:Str×Int→Bool} {fv:Value} (hM:F bm=some (.cells (mcells l).toArray T fz)) (hl:l.length≤100) (hq:∀ m:Str×Int,PureF Tryz.prog F fv [.agg #[.string (bs m.1),.int .i64 m.2]] (.bool (q m))) :
  PureV Tryz.prog F 103 #[.slice (some ⟨bm,0,none⟩) l.length l.length,fv] (.int .i64 (idxI q l)):=by
 have hr:=idxI_isFst q ([],0) l
 revert hr
 generalize idxI q l=r
 intro hr
 refine pureV_of_svc mixed Tryz.func103 low103 (Nat.le_of_ble_eq_true rfl) (fun w0=>?_)
 simp (disch:=first | assumption | exact .symm ‹_› | omega) only [fu103,↓ZD,ZW,simprocAttr]
 refine LoopL.inv (α:=Nat) (fun i=>i≤l.length∧∀ j,j < i→q (l.getD j ([],0))=false)
  (fun i=>[(0,some (.slice (some ⟨bm,0,none⟩) l.length l.length)),(1,some fv),(7,some (.int .i64 l.length)),(8,some (.int .i64 i))]) (fun i=>[]) (fun i=>l.length - i) 0 ⟨Nat.zero_le _,fun j h=>absurd h (by omega)⟩ (by (simp (disch:=first | assumption | exact .symm ‹_› | omega) only [↓ZD,ZW,simprocAttr];try trivial)) (by (try (simp (disch:=first | assumption | exact .symm ‹_› | omega) only [↓ZD,ZW,simprocAttr]);try trivial)) ?_
 rintro i ⟨hi,ha⟩
 by_cases hlt:i < l.length
 ·have hd:decide ((i:Int) < (l.length:Int))=true:=by simp;omega
  have hld:=(mcells_at (T:=T) (fz:=fz) hlt).1
  simp (disch:=first | assumption | exact .symm ‹_› | omega) only [hd,hM,hld,Int.toNat_natCast,↓ZD,ZW,simprocAttr]
  refine conj.of (by omega) ?_
  simp (disch:=first | assumption | exact .symm ‹_› | omega) only [hd,hM,hld,Int.toNat_natCast,↓ZD,ZW,simprocAttr]
  refine CallEF.pure (hq _) ?_
  simp (disch:=first | assumption | exact .symm ‹_› | omega) only [hd,↓ZD,ZW,simprocAttr]
  refine ⟨fun hpp=>?_,fun hpp=>?_⟩
  ·have:r=i:=by
    rcases hr with ⟨k,h1,h2,h3,h4⟩ | ⟨h1,h2⟩
    ·have:k=i:=by
      rcases Nat.lt_trichotomy k i with h | h | h
      ·have:=ha k h;simp only at h3;rw [this] at h3;cases h3
      ·exact h
      ·have:=h4 i h;simp only at this;rw [this] at hpp;cases hpp
     rw [h1,this]
    ·have:=h2 i hlt;simp only at this;rw [this] at hpp;cases hpp
   rw [this]
  ·refine invK.on (i+1) (⟨by omega,fun j hj=>by
    by_cases e:j=i
    ·rw [e];exact hpp
    ·exact ha j (by omega)⟩) (by omega) (by (simp (disch:=first | assumption | exact .symm ‹_› | omega) only [↓ZD,ZW,simprocAttr];try trivial)) (by (try (simp (disch:=first | assumption | exact .symm ‹_› | omega) only [↓ZD,ZW,simprocAttr]);try trivial))
 ·have hd:decide ((i:Int) < (l.length:Int))=false:=by simp;omega
  have:r=-1:=by
   rcases hr with ⟨k,h1,h2,h3,h4⟩ | ⟨h1,h2⟩
   ·have:=ha k (by omega);simp only at h3;rw [this] at h3;cases h3
   ·exact h1
  simp (disch:=first | assumption | exact .symm ‹_› | omega) only [hd,this,↓ZD,ZW,simprocAttr]
theorem row1_call:callable Tryz.prog 104=true:=by kernel_rfl
theorem row1_pure (F:Base) {ws:Ws} {l:Value} (hW:HasW F ws l) {b b1 T:Nat} {fz:Nat×Nat} {p:St} (hb:F b=some (RdO l p)) (h1:F b1=some (.cells #[.pointer (some ⟨b,0,none⟩)] T fz)) (m:Str×Int) :
  PureF Tryz.prog F (.func (.func 104) #[] #[.pointer (some ⟨b1,0,none⟩)]) [.agg #[.string (bs m.1),.int .i64 m.2]] (.bool (isS ws p m.1)):=by
 refine ⟨_,_,_,rfl,row1_call,?_⟩
 refine pureV_of_svc (args:=[.agg #[.string (bs m.1),.int .i64 m.2],.pointer (some ⟨b1,0,none⟩)]) mixed Tryz.func104 low104 (Nat.le_of_ble_eq_true rfl) (fun w0=>?_)
 simp (disch:=first | assumption | exact .symm ‹_› | omega) only [fu104,h1,↓ZD,ZW,simprocAttr]
 refine NewB.of fun b2 hb2 hF2=>?_
 simp (disch:=first | assumption | exact .symm ‹_› | omega) only [h1,hF2,↓ZD,ZW,simprocAttr]
 refine CallE.pure (is_pure F hW hb m.1) ?_
 simp (disch:=first | assumption | exact .symm ‹_› | omega) only [h1,hF2,↓ZD,ZW,simprocAttr]
structure RowS where
 p:St
 s:St
 cs:List Value
 G:Hp
 x:Ex'
 m:Nat
structure RowI (ws:Ws) (F:Base) (b b1 b2 b3 k N:Nat) (xF:Ex') (sF:St) (y:RowS):Prop where
 A:Agr y.p y.s
 g:Good y.s
 c:Ok12 y.cs
 r:y.s.e=0→RepP (rdObj F y.G) y.cs y.x
 n:Nb b y.G∧Nb b1 y.G∧Nb b2 y.G∧Nb b3 y.G
 w:Wk y.G
 m:y.m≤N
 R:G ws y.m (.rows k y.x) y.s=some (xF,sF)
theorem row_split {ws:Ws} {k N:Nat} {s s':St} {x:Ex'} (h:G ws (N+1) (.lev k) s=some (x,s')):∃ x1 s1,(s.e=0→True)∧G ws N (lowN k) s=some (x1,s1)∧G ws N (.rows k x1) s1=some (x,s'):=by
 rw [G_succ] at h
 split at h
 ·obtain ⟨⟨x1,s1⟩,h1,h2⟩:=bind_some h
  exact ⟨x1,s1,fun _=>trivial,h1,h2⟩
 ·rename_i he
  simp only [Option.some.injEq,Prod.mk.injEq] at h
  obtain ⟨rfl,rfl⟩:=h
  exact ⟨nilX,s,fun _=>trivial,G_at he,G_at he⟩
theorem row_does (F:Base) {ws:Ws} {l:Value} (hW:HasW F ws l) {g:Nat} (hc:callable Tryz.prog g=true) (k N:Nat) (h1:∀ n≤N,Prs F l g (G ws n (lowN k))) {bm T:Nat} {fz:Nat×Nat} (hM:F bm=some (.cells (mcells (mops k)).toArray T fz))
  {b:Nat} {p s s':St} {x:Ex'} (hFb:F b=none) (hA:Agr p s) (hg:Good s) (hR:G ws (N+1) (.lev k) s=some (x,s')) :
  Does Tryz.prog F 97 #[.pointer (some ⟨b,0,none⟩),.func (.func g) #[] #[],.slice (some ⟨bm,0,none⟩) (mops k).length (mops k).length] [(b,RdO l p)] (PPost F l b x s'):=by
 refine Does.fin (does_of_svc (args:=[.pointer (some ⟨b,0,none⟩),.func (.func g) #[] #[],.slice (some ⟨bm,0,none⟩) (mops k).length (mops k).length]) mixed Tryz.func97 low97 (Nat.le_of_ble_eq_true rfl) fun w0 hw0=>?_)
 obtain ⟨x1,s1,e1,hR1,hR2⟩:=row_split hR
 clear hR
 simp only [*,fu97,↓ZD,ZW,RO,simprocAttr]
 refine NewB.n ?_
 rintro b1 ⟨_,_,_⟩ _
 simp only [*,↓ZD,ZW,RO,simprocAttr]
 refine NewB.n ?_
 rintro b2 ⟨_,_,_,_,_⟩ _
 simp only [*,↓ZD,ZW,RO,simprocAttr]
 refine CallEF.par hc (h1 N (Nat.le_refl _)) hA hg hR1 rfl (by simp only [*,↓ZD,ZW,RO,simprocAttr]) ?_
 rintro p1 cs1 G1 hA1 hr1 ⟨_,_,⟨_,_,_⟩,hx1,_⟩
 simp only [*,↓ZD,ZW,RO,simprocAttr]
 refine NewB.n ?_
 rintro b3 ⟨_,_,_,_,_,_,_⟩ _
 simp only [*,↓ZD,ZW,RO,simprocAttr]
 refine LoopL.inv (α:=RowS) (RowI ws F b b1 b2 b3 k N x s')
  (fun y=>[(1,some (.func (.func g) #[] #[])),(2,some (.slice (some ⟨bm,0,none⟩) (mops k).length (mops k).length)),(3,some (.pointer (some ⟨b1,0,none⟩))),(6,some (.pointer (some ⟨b2,0,none⟩))),(7,some (.pointer (some ⟨b3,0,none⟩)))])
  (fun y=>(b,RdO l y.p)::(b3,.cells y.cs.toArray 31 (0,0))::(b2,.cells zx.toArray 31 (0,0))::(b1,.cells #[.pointer (some ⟨b,0,none⟩)] 82 (0,0))::y.G) (fun y=>y.m) ⟨p1,s1,cs1,G1,x1,N⟩ ⟨hA1,hg.go hR1,‹_›,hr1,⟨‹_›,‹_›,‹_›,‹_›⟩,‹_›,Nat.le_refl _,hR2⟩ (by simp only [*,↓ZD,ZW,RO,simprocAttr]) (by simp only [*,↓ZD,ZW,RO,simprocAttr]) ?_
 clear hR1 hR2 hA hg hA1 hr1 hx1
 rintro ⟨p,s,cs9,G9,x1,m⟩ ⟨hA,hg,hc9,hr9,⟨_,_,_,_⟩,hw9,hm,hR⟩
 dsimp only at hA hg hc9 hr9 hw9 hm hR ⊢
 by_cases he0:s.e=0
 ·obtain rfl:=hA.ok he0
  have hd:(p.e==0)=true:=by simpa using he0
  simp only [*,↓ZD,ZW,RO,simprocAttr]
  refine CallE.pureH (idxM_pure (q:=fun m=>isS ws p m.1) _ (le_up _ _ hM) (by rcases mops_cases k with h | h | h | h <;> rw [h] <;> decide) (row1_pure (b:=b) (b1:=b1) (T:=82) (fz:=(0,0)) _ (hW.mono le_up) (by simp [rdObj,lk, *]) (by simp [rdObj,lk, *]))) ?_
  have hge:=(idxI_ge (fun m:Str×Int=>isS ws p m.1) (mops k)).1
  have hlt:=(idxI_ge (fun m:Str×Int=>isS ws p m.1) (mops k)).2
  by_cases hi:idxI (fun m:Str×Int=>isS ws p m.1) (mops k) < 0
  ·have ho:=op_none hi
   have hdi:decide (idxI (fun m:Str×Int=>isS ws p m.1) (mops k) < 0)=true:=decide_eq_true hi
   simp only [*,↓ZD,ZW,RO,simprocAttr]
   cases m with
   | zero=>exact absurd he0 (G_zero hR).1
   | succ m=>
    rw [G_succ,if_pos he0] at hR
    simp only [stepG,ho,if_true,Option.some.injEq,Prod.mk.injEq] at hR
    obtain ⟨rfl,rfl⟩:=hR
    exact PFin.g hA rfl ‹_› hr9 ‹_› ‹_›
  ·obtain ⟨i,hi2⟩:∃ i:Nat,idxI (fun m:Str×Int=>isS ws p m.1) (mops k)=i:=⟨(idxI (fun m:Str×Int=>isS ws p m.1) (mops k)).toNat,by omega⟩
   obtain ⟨hil,ho,ho0,hoi,tx,htx⟩:=op_some hi2
   have hrg:=isS_range htx
   have hlen:=hW.len
   rw [hi2]
   clear hi hge hlt
   have hdi:decide ((i:Int) < 0)=false:=by simp
   have hdl:=(mcells_at (T:=T) (fz:=fz) hil).2
   have hw1:IntKind.i64.wrap (p.p+1)=p.p+1:=by rw [wrap_i64];omega
   obtain ⟨m,rfl⟩:∃ m',m=m'+1:=by
    cases m with
    | zero=>exact absurd he0 (G_zero hR).1
    | succ m=>exact ⟨m,rfl⟩
   rw [G_succ,if_pos he0] at hR
   simp only [stepG] at hR
   rw [if_neg ho0] at hR
   obtain ⟨⟨y,t⟩,hR3,hR4⟩:=bind_some hR
   rw [ho] at hR4 hoi
   clear hR ho ho0 hi2
   simp only [*,↓ZD,ZW,RO,simprocAttr]
   refine TreeL.open ?_
   simp (disch:=first | assumption | exact .symm ‹_› | omega) only [*,Int.toNat_natCast,↓ZD,ZW,RO,simprocAttr]
   refine conj.of (by omega) ?_
   simp (disch:=first | assumption | exact .symm ‹_› | omega) only [*,Int.toNat_natCast,↓ZD,ZW,RO,simprocAttr]
   refine ⟨⟨?_,?_⟩,⟨?_,?_⟩,?_⟩
   iterate 5
    ·refine CallEF.par (p:=adv p) hc (h1 m (by omega)) Agr.rfl' hg.adv hR3 (by simp [adv, *]) (by simp only [*,↓ZD,ZW,RO,simprocAttr]) ?_
     rintro p10 cs10 G10 hA10 hr10 ⟨_,_,⟨_,_,_,_⟩,hx10,_⟩
     simp only [*,Int.toNat_natCast,↓ZD,ZW,RO,simprocAttr]
     refine CallE.two hoi (fun he=>((hr9 he0).mono hx10)) (fun he=>(hr10 he)) ‹_› ‹_› (by simp only [*,↓ZD,ZW,RO,simprocAttr]) ?_
     rintro cs11 G11 hr11 ⟨_,⟨_,_,_,_,_⟩,hx11,_⟩
     simp only [*,Int.toNat_natCast,↓ZD,ZW,RO,simprocAttr]
     refine invK.on ⟨p10,t,cs11,G11,twoX ((mops k).getD i ([],0)).2 x1 y,m⟩ ⟨hA10,hg.adv.go hR3,‹_›,hr11,⟨‹_›,‹_›,‹_›,‹_›⟩,‹_›,(by show m≤N;omega),hR4⟩ (by show m < m+1;omega) (by simp only [*,↓ZD,ZW,RO,simprocAttr]) (by simp only [*,↓ZD,ZW,RO,simprocAttr])
 ·have hd:(p.e==0)=false:=by rw [hA.e];simpa using he0
  obtain ⟨rfl,rfl⟩:=G_err he0 _ _ hR
  simp only [*,↓ZD,ZW,RO,simprocAttr]
  exact PFin.g hA rfl ‹_› (fun h=>absurd h he0) ‹_› ‹_›
theorem call_and:callable Tryz.prog 98=true:=by kernel_rfl
theorem call_rel:callable Tryz.prog 106=true:=by kernel_rfl
theorem call_product:callable Tryz.prog 121=true:=by kernel_rfl
theorem call_unary:callable Tryz.prog 123=true:=by kernel_rfl
theorem CallG.row {X:List Nat} {F:Base} {w0:World} {l:Value} {g:Nat} {H:Hp} {K:Value→Hp→Prop} {b bm T:Nat} {p s:St} {x:Ex'} {s':St} {ws:Ws} {Hl G:Hp} {o:Obj} {k N n m:Nat} [sp:Sp b H o ((bm,.cells (mcells (mops k)).toArray T (0,0))::Hl) G] (hW:HasW F ws l) (hc:callable Tryz.prog g=true) (h1:∀ n≤N,Prs F l g (Go.Proofs.YtoelfmmfjebabaaGreatDoor.G ws n (lowN k)))
  (hA:Agr p s) (hg:Good s) (hR:Go.Proofs.YtoelfmmfjebabaaGreatDoor.G ws (N+1) (.lev k) s=some (x,s')) (ho:o=RdO l p) (hn:n=(mops k).length) (hm:m=(mops k).length) (sd:Side F b ((bm,.cells (mcells (mops k)).toArray T (0,0))::Hl) G) (sd2:Nb bm G∧Nb bm Hl)
  (hk:∀ p' cs G',Agr p' s'→(s'.e=0→RepP (rdObj F G') cs x)→Ok12 cs∧Nb b G'∧Dj Hl G'∧(∀ b o,rdObj F G b=some o→rdObj F G' b=some o)∧Wk G'→K (.agg cs.toArray) ((b,RdO l p')::(Hl++G'))) :
  CallG Tryz.prog X F w0 97 #[.pointer (some ⟨b,0,none⟩),.func (.func g) #[] #[],.slice (some ⟨bm,0,none⟩) n m] H K:=by
 obtain ⟨h2,⟨h3a,h3b,h3⟩,h4,⟨-,h5⟩,⟨h6,h6'⟩,h7⟩:=sd
 subst ho hn hm
 have hw:Wk ((bm,.cells (mcells (mops k)).toArray T (0,0))::G):=h7.cb sd2.1
 refine CallG.par (s':=s') (x:=x) Hl ((bm,.cells (mcells (mops k)).toArray T (0,0))::G) (fun F2 hE2 hb2=>row_does F2 (hW.mono fun b o h=>hE2 b o (le_up b o h)) hc k N (fun n hn=>(h1 n hn).mono fun b o h=>hE2 b o (le_up b o h)) (hE2 _ _ (rdObj_hd h6)) hb2 hA hg hR) h2 sp.mem (fun e he=>sp.sub e (List.mem_cons_of_mem _ he)) (fun e he=>(List.mem_cons.1 he).elim (fun h=>by rw [h];exact sp.sub _ List.mem_cons_self) (sp.subG e)) h3.all (Nb.all (H:=(bm,_)::G) ⟨h3a,h3b,h4⟩)
  (fun e he e' he'=>(List.mem_cons.1 he').elim (fun h=>by rw [h];exact sd2.2.all e he) fun h=>(Dj.iff.1 h5 e he e' h).symm) (Nf.iff.1 h6') hw ?_
 intro p' cs G1 k1 k2 k3 k4 k5 k6 k7
 exact hk p' cs G1 k1 k3 ⟨k2,Nb.of k4,Dj.iff.2 fun e he e' he'=>(k5 e he e' he').symm,fun b o h=>k6 b o (rdObj_tl sd2.1.all h),k7⟩
theorem tf (c:Bool):c=true∨c=false:=by cases c <;> simp
theorem or_prs (F:Base) {ws:Ws} {l:Value} (hW:HasW F ws l) (N:Nat) (h1:∀ n≤N,Prs F l 98 (G ws n (lowN 0))):Prs F l 85 (G ws (N+1) (.lev 0)):=by
 intro F' hFF b p s x s' hFb hA hg hR
 have hW:=hW.mono hFF
 refine Does.fin (does_of_svc (args:=[.pointer (some ⟨b,0,none⟩)]) mixed Tryz.func85 low85 (Nat.le_of_ble_eq_true rfl) fun w0 hw0=>?_)
 simp only [*,fu85,↓ZD,ZW,RO,simprocAttr]
 refine NewB.n ?_
 rintro b1 ⟨_,_,_⟩ _
 simp only [*,↓ZD,ZW,RO,simprocAttr]
 refine NewB.n ?_
 rintro b2 ⟨_,_,_,_,_⟩ _
 simp only [*,↓ZD,ZW,RO,simprocAttr]
 refine CallG.row (k:=0) (N:=N) hW call_and (fun n hn=>(h1 n hn).mono hFF) hA hg hR rfl rfl rfl (by simp only [*,↓ZD,ZW,RO,simprocAttr]) (by simp only [*,↓ZD,ZW,RO,simprocAttr]) ?_
 rintro p1 cs1 G1 hA1 hr1 ⟨_,_,⟨_,_⟩,hx1,_⟩
 simp only [*,↓ZD,ZW,RO,simprocAttr]
 exact PFin.g hA1 rfl ‹_› hr1 ‹_› ‹_›
theorem and_prs (F:Base) {ws:Ws} {l:Value} (hW:HasW F ws l) (N:Nat) (h1:∀ n≤N,Prs F l 106 (G ws n (lowN 1))):Prs F l 98 (G ws (N+1) (.lev 1)):=by
 intro F' hFF b p s x s' hFb hA hg hR
 have hW:=hW.mono hFF
 refine Does.fin (does_of_svc (args:=[.pointer (some ⟨b,0,none⟩)]) mixed Tryz.func98 low98 (Nat.le_of_ble_eq_true rfl) fun w0 hw0=>?_)
 simp only [*,fu98,↓ZD,ZW,RO,simprocAttr]
 refine NewB.n ?_
 rintro b1 ⟨_,_,_⟩ _
 simp only [*,↓ZD,ZW,RO,simprocAttr]
 refine NewB.n ?_
 rintro b2 ⟨_,_,_,_,_⟩ _
 simp only [*,↓ZD,ZW,RO,simprocAttr]
 refine CallG.row (k:=1) (N:=N) hW call_rel (fun n hn=>(h1 n hn).mono hFF) hA hg hR rfl rfl rfl (by simp only [*,↓ZD,ZW,RO,simprocAttr]) (by simp only [*,↓ZD,ZW,RO,simprocAttr]) ?_
 rintro p1 cs1 G1 hA1 hr1 ⟨_,_,⟨_,_⟩,hx1,_⟩
 simp only [*,↓ZD,ZW,RO,simprocAttr]
 exact PFin.g hA1 rfl ‹_› hr1 ‹_› ‹_›
theorem sum_prs (F:Base) {ws:Ws} {l:Value} (hW:HasW F ws l) (N:Nat) (h1:∀ n≤N,Prs F l 121 (G ws n (lowN 2))):Prs F l 115 (G ws (N+1) (.lev 2)):=by
 intro F' hFF b p s x s' hFb hA hg hR
 have hW:=hW.mono hFF
 refine Does.fin (does_of_svc (args:=[.pointer (some ⟨b,0,none⟩)]) mixed Tryz.func115 low115 (Nat.le_of_ble_eq_true rfl) fun w0 hw0=>?_)
 simp only [*,fu115,↓ZD,ZW,RO,simprocAttr]
 refine NewB.n ?_
 rintro b1 ⟨_,_,_⟩ _
 simp only [*,↓ZD,ZW,RO,simprocAttr]
 refine NewB.n ?_
 rintro b2 ⟨_,_,_,_,_⟩ _
 simp only [*,↓ZD,ZW,RO,simprocAttr]
 refine CallG.row (k:=2) (N:=N) hW call_product (fun n hn=>(h1 n hn).mono hFF) hA hg hR rfl rfl rfl (by simp only [*,↓ZD,ZW,RO,simprocAttr]) (by simp only [*,↓ZD,ZW,RO,simprocAttr]) ?_
 rintro p1 cs1 G1 hA1 hr1 ⟨_,_,⟨_,_⟩,hx1,_⟩
 simp only [*,↓ZD,ZW,RO,simprocAttr]
 exact PFin.g hA1 rfl ‹_› hr1 ‹_› ‹_›
theorem product_prs (F:Base) {ws:Ws} {l:Value} (hW:HasW F ws l) (N:Nat) (h1:∀ n≤N,Prs F l 123 (G ws n (lowN 3))):Prs F l 121 (G ws (N+1) (.lev 3)):=by
 intro F' hFF b p s x s' hFb hA hg hR
 have hW:=hW.mono hFF
 refine Does.fin (does_of_svc (args:=[.pointer (some ⟨b,0,none⟩)]) mixed Tryz.func121 low121 (Nat.le_of_ble_eq_true rfl) fun w0 hw0=>?_)
 simp only [*,fu121,↓ZD,ZW,RO,simprocAttr]
 refine NewB.n ?_
 rintro b1 ⟨_,_,_⟩ _
 simp only [*,↓ZD,ZW,RO,simprocAttr]
 refine NewB.n ?_
 rintro b2 ⟨_,_,_,_,_⟩ _
 simp only [*,↓ZD,ZW,RO,simprocAttr]
 refine CallG.row (k:=3) (N:=N) hW call_unary (fun n hn=>(h1 n hn).mono hFF) hA hg hR rfl rfl rfl (by simp only [*,↓ZD,ZW,RO,simprocAttr]) (by simp only [*,↓ZD,ZW,RO,simprocAttr]) ?_
 rintro p1 cs1 G1 hA1 hr1 ⟨_,_,⟨_,_⟩,hx1,_⟩
 simp only [*,↓ZD,ZW,RO,simprocAttr]
 exact PFin.g hA1 rfl ‹_› hr1 ‹_› ‹_›
theorem rel_prs (F:Base) {ws:Ws} (hws:WsOk ws) {l:Value} (hW:HasW F ws l) (n:Nat) (h1:Prs F l 115 (G ws n (.lev 2))):Prs F l 106 (relG ws (G ws n)):=by
 intro F' hFF b p s x s' hFb hA hg hR
 have hW:=hW.mono hFF
 refine Does.fin (does_of_svc (args:=[.pointer (some ⟨b,0,none⟩)]) mixed Tryz.func106 low106 (Nat.le_of_ble_eq_true rfl) fun w0 hw0=>?_)
 simp only [*,fu106,↓ZD,ZW,RO,simprocAttr]
 refine NewB.n ?_
 rintro b1 ⟨_,_,_⟩ _
 simp only [*,↓ZD,ZW,RO,simprocAttr]
 unfold relG at hR
 obtain ⟨⟨x1,s1⟩,hR1,hR⟩:=bind_some hR
 simp only at hR
 have hg1:=hg.go hR1
 refine CallE.par (h1.mono hFF) hA hg hR1 rfl (by simp only [*,↓ZD,ZW,RO,simprocAttr]) ?_
 rintro p1 cs1 G1 hA1 hr1 ⟨_,_,⟨_,_⟩,hx1,_⟩
 simp only [*,↓ZD,ZW,RO,simprocAttr]
 refine NewB.n ?_
 rintro b2 ⟨_,_,_,_,_⟩ _
 simp only [*,↓ZD,ZW,RO,simprocAttr]
 refine CallE.rdq (skip_q hW hA1 [61,61]) rfl (by simp only [*,↓ZD,ZW,RO,simprocAttr]) ?_
 rcases tf (isS ws s1 [61,61]) with hi | hi
 ·rw [hi,if_pos rfl] at hR
  simp only [*,↓ZD,ZW,RO,simprocAttr]
  obtain ⟨⟨x2,s2⟩,hR2,hR⟩:=map_some' hR
  simp only [Prod.mk.injEq] at hR
  obtain ⟨rfl,rfl⟩:=hR
  have h21:s2.e=0→s1.e=0:=fun he=>(G_goes ws n _ _ _ hR2 he).1
  refine TreeL.open ?_
  simp only [*,↓ZD,ZW,RO,simprocAttr]
  refine ⟨?_,?_⟩
  iterate 2
   ·refine CallE.par (h1.mono hFF) hA1.adv hg1.adv hR2 rfl (by simp only [*,↓ZD,ZW,RO,simprocAttr]) ?_
    rintro p2 cs2 G2 hA2 hr2 ⟨_,_,⟨_,_,_⟩,hx2,_⟩
    simp only [*,↓ZD,ZW,RO,simprocAttr]
    refine CallE.two (i64_lit rfl) (fun he=>((hr1 (h21 he)).mono hx2)) (fun he=>(hr2 he)) ‹_› ‹_› (by simp only [*,↓ZD,ZW,RO,simprocAttr]) ?_
    rintro cs3 G3 hr3 ⟨_,⟨_,_,_,_⟩,hx3,_⟩
    simp only [*,↓ZD,ZW,RO,simprocAttr]
    exact PFin.g hA2 rfl ‹_› hr3 ‹_› ‹_›
 rw [hi,if_neg (by decide)] at hR
 simp only [*,↓ZD,ZW,RO,simprocAttr]
 clear hi
 refine CallE.rdq (skip_q hW hA1 [33,61]) rfl (by simp only [*,↓ZD,ZW,RO,simprocAttr]) ?_
 rcases tf (isS ws s1 [33,61]) with hi | hi
 ·rw [hi,if_pos rfl] at hR
  simp only [*,↓ZD,ZW,RO,simprocAttr]
  obtain ⟨⟨x2,s2⟩,hR2,hR⟩:=map_some' hR
  simp only [Prod.mk.injEq] at hR
  obtain ⟨rfl,rfl⟩:=hR
  have h21:s2.e=0→s1.e=0:=fun he=>(G_goes ws n _ _ _ hR2 he).1
  refine TreeL.open ?_
  simp only [*,↓ZD,ZW,RO,simprocAttr]
  refine ⟨?_,?_⟩
  iterate 2
   ·refine CallE.par (h1.mono hFF) hA1.adv hg1.adv hR2 rfl (by simp only [*,↓ZD,ZW,RO,simprocAttr]) ?_
    rintro p2 cs2 G2 hA2 hr2 ⟨_,_,⟨_,_,_⟩,hx2,_⟩
    simp only [*,↓ZD,ZW,RO,simprocAttr]
    refine CallE.two (i64_lit rfl) (fun he=>((hr1 (h21 he)).mono hx2)) (fun he=>(hr2 he)) ‹_› ‹_› (by simp only [*,↓ZD,ZW,RO,simprocAttr]) ?_
    rintro cs3 G3 hr3 ⟨_,⟨_,_,_,_⟩,hx3,_⟩
    simp only [*,↓ZD,ZW,RO,simprocAttr]
    refine NewB.n ?_
    rintro b3 ⟨_,_,_,_,_,_,_⟩ _
    simp only [*,↓ZD,ZW,RO,simprocAttr]
    exact PFin.m _ hA2 rfl ⟨rfl,rfl,rfl,rfl⟩ (fun he=>rep_one (T:=31) ‹_› ‹_› (i64_lit rfl) (hr3 he)) (by simp only [*,↓ZD,ZW,RO,simprocAttr]) (Wk.cb ‹_› ‹_›) (by simp +contextual)
 rw [hi,if_neg (by decide)] at hR
 simp only [*,↓ZD,ZW,RO,simprocAttr]
 clear hi
 refine CallE.rdq (skip_q hW hA1 [60]) rfl (by simp only [*,↓ZD,ZW,RO,simprocAttr]) ?_
 rcases tf (isS ws s1 [60]) with hi | hi
 ·rw [hi,if_pos rfl] at hR
  simp only [*,↓ZD,ZW,RO,simprocAttr]
  obtain ⟨⟨x2,s2⟩,hR2,hR⟩:=map_some' hR
  simp only [Prod.mk.injEq] at hR
  obtain ⟨rfl,rfl⟩:=hR
  have h21:s2.e=0→s1.e=0:=fun he=>(G_goes ws n _ _ _ hR2 he).1
  refine TreeL.open ?_
  simp only [*,↓ZD,ZW,RO,simprocAttr]
  refine ⟨?_,?_⟩
  iterate 2
   ·refine CallE.par (h1.mono hFF) hA1.adv hg1.adv hR2 rfl (by simp only [*,↓ZD,ZW,RO,simprocAttr]) ?_
    rintro p2 cs2 G2 hA2 hr2 ⟨_,_,⟨_,_,_⟩,hx2,_⟩
    simp only [*,↓ZD,ZW,RO,simprocAttr]
    refine CallE.two (i64_lit rfl) (fun he=>((hr1 (h21 he)).mono hx2)) (fun he=>(hr2 he)) ‹_› ‹_› (by simp only [*,↓ZD,ZW,RO,simprocAttr]) ?_
    rintro cs3 G3 hr3 ⟨_,⟨_,_,_,_⟩,hx3,_⟩
    simp only [*,↓ZD,ZW,RO,simprocAttr]
    exact PFin.g hA2 rfl ‹_› hr3 ‹_› ‹_›
 rw [hi,if_neg (by decide)] at hR
 simp only [*,↓ZD,ZW,RO,simprocAttr]
 clear hi
 refine CallE.rdq (skip_q hW hA1 [60,61]) rfl (by simp only [*,↓ZD,ZW,RO,simprocAttr]) ?_
 rcases tf (isS ws s1 [60,61]) with hi | hi
 ·rw [hi,if_pos rfl] at hR
  simp only [*,↓ZD,ZW,RO,simprocAttr]
  obtain ⟨⟨x2,s2⟩,hR2,hR⟩:=map_some' hR
  simp only [Prod.mk.injEq] at hR
  obtain ⟨rfl,rfl⟩:=hR
  have h21:s2.e=0→s1.e=0:=fun he=>(G_goes ws n _ _ _ hR2 he).1
  refine TreeL.open ?_
  simp only [*,↓ZD,ZW,RO,simprocAttr]
  refine ⟨?_,?_⟩
  iterate 2
   ·refine CallE.par (h1.mono hFF) hA1.adv hg1.adv hR2 rfl (by simp only [*,↓ZD,ZW,RO,simprocAttr]) ?_
    rintro p2 cs2 G2 hA2 hr2 ⟨_,_,⟨_,_,_⟩,hx2,_⟩
    simp only [*,↓ZD,ZW,RO,simprocAttr]
    refine CallE.two (i64_lit rfl) (fun he=>((hr1 (h21 he)).mono hx2)) (fun he=>(hr2 he)) ‹_› ‹_› (by simp only [*,↓ZD,ZW,RO,simprocAttr]) ?_
    rintro cs3 G3 hr3 ⟨_,⟨_,_,_,_⟩,hx3,_⟩
    simp only [*,↓ZD,ZW,RO,simprocAttr]
    exact PFin.g hA2 rfl ‹_› hr3 ‹_› ‹_›
 rw [hi,if_neg (by decide)] at hR
 simp only [*,↓ZD,ZW,RO,simprocAttr]
 clear hi
 refine CallE.rdq (skip_q hW hA1 [62]) rfl (by simp only [*,↓ZD,ZW,RO,simprocAttr]) ?_
 rcases tf (isS ws s1 [62]) with hi | hi
 ·rw [hi,if_pos rfl] at hR
  simp only [*,↓ZD,ZW,RO,simprocAttr]
  obtain ⟨⟨x2,s2⟩,hR2,hR⟩:=map_some' hR
  simp only [Prod.mk.injEq] at hR
  obtain ⟨rfl,rfl⟩:=hR
  have h21:s2.e=0→s1.e=0:=fun he=>(G_goes ws n _ _ _ hR2 he).1
  refine TreeL.open ?_
  simp only [*,↓ZD,ZW,RO,simprocAttr]
  refine ⟨?_,?_⟩
  iterate 2
   ·refine CallE.par (h1.mono hFF) hA1.adv hg1.adv hR2 rfl (by simp only [*,↓ZD,ZW,RO,simprocAttr]) ?_
    rintro p2 cs2 G2 hA2 hr2 ⟨_,_,⟨_,_,_⟩,hx2,_⟩
    simp only [*,↓ZD,ZW,RO,simprocAttr]
    refine CallE.two (i64_lit rfl) (fun he=>(hr2 he)) (fun he=>((hr1 (h21 he)).mono hx2)) ‹_› ‹_› (by simp only [*,↓ZD,ZW,RO,simprocAttr]) ?_
    rintro cs3 G3 hr3 ⟨_,⟨_,_,_,_⟩,hx3,_⟩
    simp only [*,↓ZD,ZW,RO,simprocAttr]
    exact PFin.g hA2 rfl ‹_› hr3 ‹_› ‹_›
 rw [hi,if_neg (by decide)] at hR
 simp only [*,↓ZD,ZW,RO,simprocAttr]
 clear hi
 refine CallE.rdq (skip_q hW hA1 [62,61]) rfl (by simp only [*,↓ZD,ZW,RO,simprocAttr]) ?_
 rcases tf (isS ws s1 [62,61]) with hi | hi
 ·rw [hi,if_pos rfl] at hR
  simp only [*,↓ZD,ZW,RO,simprocAttr]
  obtain ⟨⟨x2,s2⟩,hR2,hR⟩:=map_some' hR
  simp only [Prod.mk.injEq] at hR
  obtain ⟨rfl,rfl⟩:=hR
  have h21:s2.e=0→s1.e=0:=fun he=>(G_goes ws n _ _ _ hR2 he).1
  refine TreeL.open ?_
  simp only [*,↓ZD,ZW,RO,simprocAttr]
  refine ⟨?_,?_⟩
  iterate 2
   ·refine CallE.par (h1.mono hFF) hA1.adv hg1.adv hR2 rfl (by simp only [*,↓ZD,ZW,RO,simprocAttr]) ?_
    rintro p2 cs2 G2 hA2 hr2 ⟨_,_,⟨_,_,_⟩,hx2,_⟩
    simp only [*,↓ZD,ZW,RO,simprocAttr]
    refine CallE.two (i64_lit rfl) (fun he=>(hr2 he)) (fun he=>((hr1 (h21 he)).mono hx2)) ‹_› ‹_› (by simp only [*,↓ZD,ZW,RO,simprocAttr]) ?_
    rintro cs3 G3 hr3 ⟨_,⟨_,_,_,_⟩,hx3,_⟩
    simp only [*,↓ZD,ZW,RO,simprocAttr]
    exact PFin.g hA2 rfl ‹_› hr3 ‹_› ‹_›
 rw [hi,if_neg (by decide)] at hR
 simp only [*,↓ZD,ZW,RO,simprocAttr]
 clear hi
 refine CallE.rdq (skip_q hW hA1 [105,110]) rfl (by simp only [*,↓ZD,ZW,RO,simprocAttr]) ?_
 rcases tf (isS ws s1 [105,110]) with hi | hi
 ·rw [hi,if_pos rfl] at hR
  simp only [*,↓ZD,ZW,RO,simprocAttr]
  obtain ⟨⟨x2,s2⟩,hR2,hR⟩:=map_some' hR
  simp only [Prod.mk.injEq] at hR
  obtain ⟨rfl,rfl⟩:=hR
  have h21:s2.e=0→s1.e=0:=fun he=>(G_goes ws n _ _ _ hR2 he).1
  refine TreeL.open ?_
  simp only [*,↓ZD,ZW,RO,simprocAttr]
  refine ⟨?_,?_⟩
  iterate 2
   ·refine CallE.par (h1.mono hFF) hA1.adv hg1.adv hR2 rfl (by simp only [*,↓ZD,ZW,RO,simprocAttr]) ?_
    rintro p2 cs2 G2 hA2 hr2 ⟨_,_,⟨_,_,_⟩,hx2,_⟩
    simp only [*,↓ZD,ZW,RO,simprocAttr]
    refine CallE.two (i64_lit rfl) (fun he=>((hr1 (h21 he)).mono hx2)) (fun he=>(hr2 he)) ‹_› ‹_› (by simp only [*,↓ZD,ZW,RO,simprocAttr]) ?_
    rintro cs3 G3 hr3 ⟨_,⟨_,_,_,_⟩,hx3,_⟩
    simp only [*,↓ZD,ZW,RO,simprocAttr]
    exact PFin.g hA2 rfl ‹_› hr3 ‹_› ‹_›
 rw [hi,if_neg (by decide)] at hR
 simp only [*,↓ZD,ZW,RO,simprocAttr]
 clear hi
 refine CallE.rdq (skip_q hW hA1 [104,97,115]) rfl (by simp only [*,↓ZD,ZW,RO,simprocAttr]) ?_
 rcases tf (isS ws s1 [104,97,115]) with hi | hi
 ·rw [hi,if_pos rfl] at hR
  simp only [*,↓ZD,ZW,RO,simprocAttr]
  simp only [Option.some.injEq,Prod.mk.injEq] at hR
  obtain ⟨rfl,rfl⟩:=hR
  refine TreeL.open ?_
  simp only [*,↓ZD,ZW,RO,simprocAttr]
  refine ⟨?_,?_,?_⟩
  iterate 2
   ·refine CallE.rdq (take_q hW hA1.adv 1 (by decide)) rfl (by simp only [*,↓ZD,ZW,RO,simprocAttr]) ?_
    simp only [*,↓ZD,ZW,RO,simprocAttr]
    refine NewB.n ?_
    rintro b3 ⟨_,_,_,_,_,_,_⟩ _
    simp only [*,↓ZD,ZW,RO,simprocAttr]
    exact PFin.m _ hA1.adv.take.2 rfl ⟨rfl,rfl,rfl,rfl⟩ (fun he=>rep_one (T:=31) ‹_› ‹_› (i64_lit rfl) (hr1 (Fwd.take (s:=adv s1) he).1)) (by simp only [*,↓ZD,ZW,RO,simprocAttr]) (Wk.cb ‹_› ‹_›) (by simp +contextual)
  ·refine NewB.n ?_
   rintro b3 ⟨_,_,_,_,_,_,_⟩ _
   simp only [*,↓ZD,ZW,RO,simprocAttr]
   refine CallE.rdq (take_q hW hA1.adv 1 (by decide)) rfl (by simp only [*,↓ZD,ZW,RO,simprocAttr]) ?_
   simp only [*,↓ZD,ZW,RO,simprocAttr]
   exact PFin.m _ hA1.adv.take.2 rfl ⟨rfl,rfl,rfl,rfl⟩ (fun he=>rep_one (T:=31) ‹_› ‹_› (i64_lit rfl) (hr1 (Fwd.take (s:=adv s1) he).1)) (by simp only [*,↓ZD,ZW,RO,simprocAttr]) (Wk.cb ‹_› ‹_›) (by simp +contextual)
 rw [hi,if_neg (by decide)] at hR
 simp only [*,↓ZD,ZW,RO,simprocAttr]
 clear hi
 refine CallE.rdq (skip_q hW hA1 [105,115]) rfl (by simp only [*,↓ZD,ZW,RO,simprocAttr]) ?_
 rcases tf (isS ws s1 [105,115]) with hi | hi
 ·rw [hi,if_pos rfl] at hR
  simp only [*,↓ZD,ZW,RO,simprocAttr]
  simp only [Option.some.injEq,Prod.mk.injEq] at hR
  obtain ⟨rfl,rfl⟩:=hR
  refine TreeL.open ?_
  simp only [*,↓ZD,ZW,RO,simprocAttr]
  refine ⟨?_,?_,?_⟩
  iterate 2
   ·refine CallE.rdq (path_q hws hW hA1.adv) rfl (by simp only [*,↓ZD,ZW,RO,simprocAttr]) ?_
    simp only [*,↓ZD,ZW,RO,simprocAttr]
    refine NewB.n ?_
    rintro b3 ⟨_,_,_,_,_,_,_⟩ _
    simp only [*,↓ZD,ZW,RO,simprocAttr]
    exact PFin.m _ hA1.adv.path.2 rfl ⟨rfl,rfl,rfl,rfl⟩ (fun he=>rep_one (T:=31) ‹_› ‹_› (i64_lit rfl) (hr1 (Fwd.path (s:=adv s1) he).1)) (by simp only [*,↓ZD,ZW,RO,simprocAttr]) (Wk.cb ‹_› ‹_›) (by simp +contextual)
  ·refine NewB.n ?_
   rintro b3 ⟨_,_,_,_,_,_,_⟩ _
   simp only [*,↓ZD,ZW,RO,simprocAttr]
   refine CallE.rdq (path_q hws hW hA1.adv) rfl (by simp only [*,↓ZD,ZW,RO,simprocAttr]) ?_
   simp only [*,↓ZD,ZW,RO,simprocAttr]
   exact PFin.m _ hA1.adv.path.2 rfl ⟨rfl,rfl,rfl,rfl⟩ (fun he=>rep_one (T:=31) ‹_› ‹_› (i64_lit rfl) (hr1 (Fwd.path (s:=adv s1) he).1)) (by simp only [*,↓ZD,ZW,RO,simprocAttr]) (Wk.cb ‹_› ‹_›) (by simp +contextual)
 rw [hi,if_neg (by decide)] at hR
 simp only [*,↓ZD,ZW,RO,simprocAttr]
 clear hi
 simp only [Option.some.injEq,Prod.mk.injEq] at hR
 obtain ⟨rfl,rfl⟩:=hR
 exact PFin.g hA1 rfl ‹_› hr1 ‹_› ‹_›
structure MemI (ws:Ws) (F:Base) (b b1 b2 N:Nat) (xF:Ex') (sF:St) (y:RowS):Prop where
 A:Agr y.p y.s
 g:Good y.s
 c:Ok12 y.cs
 r:y.s.e=0→RepP (rdObj F y.G) y.cs y.x
 n:Nb b y.G∧Nb b1 y.G∧Nb b2 y.G
 w:Wk y.G
 m:y.m≤N
 R:G ws y.m (.mems y.x) y.s=some (xF,sF)
theorem mem_split {ws:Ws} {N:Nat} {s s':St} {x:Ex'} (h:G ws (N+1) .member s=some (x,s')):∃ x1 s1,G ws N .prim s=some (x1,s1)∧G ws N (.mems x1) s1=some (x,s'):=by
 rw [G_succ] at h
 split at h
 ·obtain ⟨⟨x1,s1⟩,h1,h2⟩:=bind_some h
  exact ⟨x1,s1,h1,h2⟩
 ·rename_i he
  simp only [Option.some.injEq,Prod.mk.injEq] at h
  obtain ⟨rfl,rfl⟩:=h
  exact ⟨nilX,s,G_at he,G_at he⟩
theorem methI_lit (t:Str):I64 (methI t):=by
 unfold methI
 repeat' split
 all_goals exact i64_lit rfl
theorem member_prs (F:Base) {ws:Ws} {l:Value} (hW:HasW F ws l) (N:Nat) (h1:∀ n≤N,Prs F l 126 (G ws n .prim)) (h2:∀ n≤N,Prs F l 25 (G ws n .expr)):Prs F l 125 (G ws (N+1) .member):=by
 intro F' hFF b p s x s' hFb hA hg hR
 have hW:=hW.mono hFF
 refine Does.fin (does_of_svc (args:=[.pointer (some ⟨b,0,none⟩)]) mixed Tryz.func125 low125 (Nat.le_of_ble_eq_true rfl) fun w0 hw0=>?_)
 simp only [*,fu125,↓ZD,ZW,RO,simprocAttr]
 obtain ⟨x1,s1,hR1,hR2⟩:=mem_split hR
 refine NewB.n ?_
 rintro b1 ⟨_,_,_⟩ _
 simp only [*,↓ZD,ZW,RO,simprocAttr]
 refine CallE.par ((h1 N (Nat.le_refl _)).mono hFF) hA hg hR1 rfl (by simp only [*,↓ZD,ZW,RO,simprocAttr]) ?_
 rintro p1 cs1 G1 hA1 hr1 ⟨_,_,⟨_,_⟩,hx1,_⟩
 simp only [*,↓ZD,ZW,RO,simprocAttr]
 refine NewB.n ?_
 rintro b2 ⟨_,_,_,_,_⟩ _
 simp only [*,↓ZD,ZW,RO,simprocAttr]
 refine LoopL.inv (α:=RowS) (MemI ws F' b b1 b2 N x s')
  (fun y=>[(0,some (.pointer (some ⟨b,0,none⟩))),(2,some (.pointer (some ⟨b1,0,none⟩))),(3,some (.pointer (some ⟨b2,0,none⟩)))])
  (fun y=>(b,RdO l y.p)::(b2,.cells y.cs.toArray 31 (0,0))::(b1,.cells zx.toArray 31 (0,0))::y.G) (fun y=>y.m) ⟨p1,s1,cs1,G1,x1,N⟩ ⟨hA1,hg.go hR1,‹_›,hr1,⟨‹_›,‹_›,‹_›⟩,‹_›,Nat.le_refl _,hR2⟩ (by simp only [*,↓ZD,ZW,RO,simprocAttr]) (by simp only [*,↓ZD,ZW,RO,simprocAttr]) ?_
 clear hR hR1 hR2 hA hg hA1 hr1 hx1
 rintro ⟨p,s,cs9,G9,x1,m⟩ ⟨hA,hg,hc9,hr9,⟨_,_,_⟩,hw9,hm,hR⟩
 dsimp only at hA hg hc9 hr9 hw9 hm hR ⊢
 have hlen:=hW.len
 by_cases he0:s.e=0
 ·obtain rfl:=hA.ok he0
  have hd:(p.e==0)=true:=by simpa using he0
  obtain ⟨m,rfl⟩:∃ m',m=m'+1:=by
   cases m with
   | zero=>exact absurd he0 (G_zero hR).1
   | succ m=>exact ⟨m,rfl⟩
  rw [G_succ,if_pos he0] at hR
  simp only [stepG] at hR
  unfold memsG at hR
  simp only [*,↓ZD,ZW,RO,simprocAttr]
  refine CallE.rdq (skip_q hW Agr.rfl' [91]) rfl (by simp only [*,↓ZD,ZW,RO,simprocAttr]) ?_
  rcases tf (isS ws p [91]) with hi | hi
  ·rw [hi,if_pos rfl] at hR
   simp only [*,↓ZD,ZW,RO,simprocAttr]
   refine TreeL.open ?_
   simp only [*,↓ZD,ZW,RO,simprocAttr]
   refine ⟨?_,?_,?_⟩
   iterate 2
    ·refine CallE.rdq (take_q hW Agr.rfl' 3 (by decide)) rfl (by simp only [*,↓ZD,ZW,RO,simprocAttr]) ?_
     simp only [*,↓ZD,ZW,RO,simprocAttr]
     refine NewB.n ?_
     rintro b3 ⟨_,_,_,_,_,_,_⟩ _
     simp only [*,↓ZD,ZW,RO,simprocAttr]
     refine CallE.rdq (must_q hW (takeS ws (adv p) 3).2 [93]) rfl (by simp only [*,↓ZD,ZW,RO,simprocAttr]) ?_
     simp only [*,↓ZD,ZW,RO,simprocAttr]
     refine invK.on ⟨(mustS ws (takeS ws (adv p) 3).2 [93]),(mustS ws (takeS ws (adv p) 3).2 [93]),xcells 18 lv0 (.slice none 0 0) (.slice none 0 0) (takeS ws (adv p) 3).1 (.slice (some ⟨b3,0,none⟩) 1 1) (.slice none 0 0),(b3,.cells cs9.toArray 31 (0,0))::G9,oneX' 18 (takeS ws (adv p) 3).1 x1,m⟩ ⟨Agr.rfl',hg.adv.take.must,⟨rfl,rfl,rfl,rfl⟩,fun he=>rep_one ‹_› ‹_› (i64_lit rfl) (hr9 he0),by simp only [*,↓ZD,ZW,RO,simprocAttr],Wk.cb hw9 ‹_›,(by show m≤N;omega),hR⟩ (by show m < m+1;omega) (by simp only [*,↓ZD,ZW,RO,simprocAttr]) (by unfold xcells lv0;simp only [*,↓ZD,ZW,RO,simprocAttr])
   ·refine NewB.n ?_
    rintro b3 ⟨_,_,_,_,_,_,_⟩ _
    simp only [*,↓ZD,ZW,RO,simprocAttr]
    refine CallE.rdq (take_q hW Agr.rfl' 3 (by decide)) rfl (by simp only [*,↓ZD,ZW,RO,simprocAttr]) ?_
    simp only [*,↓ZD,ZW,RO,simprocAttr]
    refine CallE.rdq (must_q hW (takeS ws (adv p) 3).2 [93]) rfl (by simp only [*,↓ZD,ZW,RO,simprocAttr]) ?_
    simp only [*,↓ZD,ZW,RO,simprocAttr]
    refine invK.on ⟨(mustS ws (takeS ws (adv p) 3).2 [93]),(mustS ws (takeS ws (adv p) 3).2 [93]),xcells 18 lv0 (.slice none 0 0) (.slice none 0 0) (takeS ws (adv p) 3).1 (.slice (some ⟨b3,0,none⟩) 1 1) (.slice none 0 0),(b3,.cells cs9.toArray 31 (0,0))::G9,oneX' 18 (takeS ws (adv p) 3).1 x1,m⟩ ⟨Agr.rfl',hg.adv.take.must,⟨rfl,rfl,rfl,rfl⟩,fun he=>rep_one ‹_› ‹_› (i64_lit rfl) (hr9 he0),by simp only [*,↓ZD,ZW,RO,simprocAttr],Wk.cb hw9 ‹_›,(by show m≤N;omega),hR⟩ (by show m < m+1;omega) (by simp only [*,↓ZD,ZW,RO,simprocAttr]) (by unfold xcells lv0;simp only [*,↓ZD,ZW,RO,simprocAttr])
  rw [hi,if_neg (by decide)] at hR
  simp only [*,↓ZD,ZW,RO,simprocAttr]
  clear hi
  refine CallE.rdq (skip_q hW Agr.rfl' [46]) rfl (by simp only [*,↓ZD,ZW,RO,simprocAttr]) ?_
  rcases tf (isS ws p [46]) with hi | hi
  ·rw [hi,if_pos rfl] at hR
   simp only [*,↓ZD,ZW,RO,simprocAttr]
   refine CallE.rdq (take_q hW (Agr.rfl' (s:=adv p)) 1 (by decide)) rfl (by simp only [*,↓ZD,ZW,RO,simprocAttr]) ?_
   simp only [*,↓ZD,ZW,RO,simprocAttr]
   refine CallE.pure (methods_pure _ _) ?_
   simp only [*,↓ZD,ZW,RO,simprocAttr]
   refine CallE.pureH (is_pure (p:=(takeS ws (adv p) 1).2) _ (hW.mono le_up) (by simp [rdObj,lk, *]) [40]) ?_
   generalize hT:takeS ws (adv p) 1=T at *
   have hgT:Good T.2:=by rw [← hT];exact hg.adv.take
   simp only at hR
   rcases tf (isS ws T.2 [40]) with hj | hj
   ·rw [hj,if_neg (by decide)] at hR
    simp only [*,↓ZD,ZW,RO,simprocAttr]
    by_cases hm0:methI T.1=0
    ·have hmb:(methI T.1==0)=true:=by simpa using hm0
     rw [if_pos hm0] at hR
     simp only [Option.some.injEq,Prod.mk.injEq] at hR
     obtain ⟨rfl,rfl⟩:=hR
     simp only [*,↓ZD,ZW,RO,simprocAttr]
     refine CallE.rdq (fail_q hW T.2 10) rfl (by simp only [*,↓ZD,ZW,RO,simprocAttr]) ?_
     simp only [*,↓ZD,ZW,RO,simprocAttr]
     have hne:(failS ws T.2 10).e≠0:=failS_e (by decide)
     refine invK.on ⟨(failS ws T.2 10),(failS ws T.2 10),cs9,G9,nilX,m⟩ ⟨Agr.rfl',(hgT.fail (by decide)),hc9,(fun h=>absurd h hne),⟨‹_›,‹_›,‹_›⟩,hw9,(by show m≤N;omega),(G_at hne)⟩ (by show m < m+1;omega) (by simp only [*,↓ZD,ZW,RO,simprocAttr]) (by simp only [*,↓ZD,ZW,RO,simprocAttr])
    ·have hmb:(methI T.1==0)=false:=by simpa using hm0
     rw [if_neg hm0] at hR
     obtain ⟨⟨y,t⟩,hR3,hR4⟩:=bind_some hR
     have hrg:=isS_range hj
     have hw1:IntKind.i64.wrap (T.2.p+1)=T.2.p+1:=by rw [wrap_i64];omega
     clear hR hm0
     simp only [*,↓ZD,ZW,RO,simprocAttr]
     refine TreeL.open ?_
     simp only [*,↓ZD,ZW,RO,simprocAttr]
     refine ⟨?_,?_⟩
     iterate 2
      ·refine CallE.par ((h2 m (by omega)).mono hFF) (Agr.rfl' (s:=adv T.2)) hgT.adv hR3 (by simp [adv, *]) (by simp only [*,↓ZD,ZW,RO,simprocAttr]) ?_
       rintro p10 cs10 G10 hA10 hr10 ⟨_,_,⟨_,_,_⟩,hx10,_⟩
       simp only [*,↓ZD,ZW,RO,simprocAttr]
       refine CallE.two (methI_lit _) (fun he=>((hr9 he0).mono hx10)) (fun he=>(hr10 he)) ‹_› ‹_› (by simp only [*,↓ZD,ZW,RO,simprocAttr]) ?_
       rintro cs11 G11 hr11 ⟨_,⟨_,_,_,_⟩,hx11,_⟩
       simp only [*,↓ZD,ZW,RO,simprocAttr]
       refine CallE.rdq (must_q hW p10 [41]) rfl (by simp only [*,↓ZD,ZW,RO,simprocAttr]) ?_
       simp only [*,↓ZD,ZW,RO,simprocAttr]
       refine invK.on ⟨(mustS ws p10 [41]),(mustS ws t [41]),cs11,G11,(twoX (methI T.1) x1 y),m⟩ ⟨hA10.must,(hgT.adv.go hR3).must,‹_›,(fun h=>hr11 (must_e h)),⟨‹_›,‹_›,‹_›⟩,‹_›,(by show m≤N;omega),hR4⟩ (by show m < m+1;omega) (by simp only [*,↓ZD,ZW,RO,simprocAttr]) (by simp only [*,↓ZD,ZW,RO,simprocAttr])
   ·rw [hj,if_pos rfl] at hR
    simp only [*,↓ZD,ZW,RO,simprocAttr]
    refine NewB.n ?_
    rintro b3 ⟨_,_,_,_,_,_,_⟩ _
    simp only [*,↓ZD,ZW,RO,simprocAttr]
    refine invK.on ⟨T.2,T.2,xcells 18 lv0 (.slice none 0 0) (.slice none 0 0) T.1 (.slice (some ⟨b3,0,none⟩) 1 1) (.slice none 0 0),(b3,.cells cs9.toArray 31 (0,0))::G9,oneX' 18 T.1 x1,m⟩ ⟨Agr.rfl',hgT,⟨rfl,rfl,rfl,rfl⟩,fun he=>rep_one ‹_› ‹_› (i64_lit rfl) (hr9 he0),by simp only [*,↓ZD,ZW,RO,simprocAttr],Wk.cb hw9 ‹_›,(by show m≤N;omega),hR⟩ (by show m < m+1;omega) (by simp only [*,↓ZD,ZW,RO,simprocAttr]) (by unfold xcells lv0;simp only [*,↓ZD,ZW,RO,simprocAttr])
  ·rw [hi,if_neg (by decide)] at hR
   simp only [Option.some.injEq,Prod.mk.injEq] at hR
   obtain ⟨rfl,rfl⟩:=hR
   simp only [*,↓ZD,ZW,RO,simprocAttr]
   exact PFin.g Agr.rfl' rfl ‹_› hr9 ‹_› ‹_›
 ·have hd:(p.e==0)=false:=by rw [hA.e];simpa using he0
  obtain ⟨rfl,rfl⟩:=G_err he0 _ _ hR
  simp only [*,↓ZD,ZW,RO,simprocAttr]
  exact PFin.g hA rfl ‹_› (fun h=>absurd h he0) ‹_› ‹_›
def varsL:Str:=[124,112,114,105,110,99,105,112,97,108,124,97,99,116,105,111,110,124,114,101,115,111,117,114,99,101,124,99,111,110,116,101,120,116,124]
theorem pre_take {s r:Str} (h:∀ c∈s,c≠124) (hp:(s++[124]).isPrefixOf r=true):s=r.takeWhile (· != 124):=by
 rw [List.isPrefixOf_iff_prefix] at hp
 obtain ⟨t,rfl⟩:=hp
 rw [List.append_assoc,List.takeWhile_append_of_pos fun c hc=>by simpa using h c hc]
 simp [List.takeWhile_cons]
def pipeOk (i:Nat):Bool:=match varsL.drop i with
 | []=>true
 | c::r=>c != 124||r.isEmpty||decide (r.takeWhile (· != 124)∈varL)
theorem pipe_all:(List.range 36).all pipeOk=true:=by decide
theorem pipe_at {i:Nat} (hi:i < 36) {c:UInt8} {r:Str} (h:varsL.drop i=c::r) (hc:c=124):r=[]∨r.takeWhile (· != 124)∈varL:=by
 have:=List.all_eq_true.1 pipe_all i (List.mem_range.2 hi)
 unfold pipeOk at this
 rw [h] at this
 simp only [hc,Bool.or_eq_true,List.isEmpty_iff,decide_eq_true_eq] at this
 rcases this with (h | h) | h
 ·simp at h
 ·exact .inl h
 ·exact .inr h
theorem has_var {s:Str} (h:∀ c∈s,c≠124):Go.Lib.contains varsL ([124]++s++[124])=decide (s∈varL):=by
 unfold Go.Lib.contains
 rw [Bool.eq_iff_iff,decide_eq_true_eq,decide_eq_true_eq]
 constructor
 ·intro h0
  rcases Go.Lib.index_spec varsL ([124]++s++[124]) with ⟨h1,-⟩ | ⟨i,h1,h2,h3,-⟩
  ·rw [h1] at h0;omega
  ·unfold Go.Lib.occAt at h3
   cases hd:varsL.drop i with
   | nil=>rw [hd] at h3;simp [List.isPrefixOf] at h3
   | cons c r=>
    rw [hd,List.append_assoc,List.singleton_append,List.isPrefixOf_cons_cons] at h3
    rw [Bool.and_eq_true,beq_iff_eq] at h3
    have hs:=pre_take h h3.2
    rcases pipe_at (i:=i) (by have:varsL.length=35:=rfl;omega) hd h3.1.symm with e | e
    ·rw [e] at h3;exact absurd h3.2 (by cases s <;> simp [List.isPrefixOf])
    ·rw [hs];exact e
 ·intro h0
  simp only [varL,List.mem_cons,List.not_mem_nil,or_false] at h0
  rcases h0 with rfl | rfl | rfl | rfl <;> decide
theorem name_does (F:Base) (hMx:HasMx F) {ws:Ws} (hws:WsOk ws) {l:Value} (hW:HasW F ws l) {b:Nat} {p:St} (hFb:F b=none) (he:p.e=0) (hk:wk ws p=1) :
  Does Tryz.prog F 129 #[.pointer (some ⟨b,0,none⟩),.string (bs (wtx ws p))] [(b,RdO l p)] (PPost F l b (nameG ws p).1 (nameG ws p).2):=by
 refine Does.fin (does_of_svc (args:=[.pointer (some ⟨b,0,none⟩),.string (bs (wtx ws p))]) mixed Tryz.func129 low129 (Nat.le_of_ble_eq_true rfl) fun w0 hw0=>?_)
 have hr:=in_range (ws:=ws) (p:=p.p) (by unfold wk at hk;omega)
 have hlen:=hW.len
 obtain ⟨bw,cap,sp,T,fz,rfl,hFw,hcc,hmm,hne⟩:=id hW
 obtain ⟨j,hj⟩:∃ j:Nat,p.p=j:=⟨p.p.toNat,by omega⟩
 have htl:(wtx ws p).length≤65536:=(wdAt_ok hws p.p).1
 have h124:∀ c∈wtx ws p,c≠124:=(wdAt_ok hws p.p).2.2 (by unfold wk at hk;omega)
 have hw1:IntKind.i64.wrap (p.p+1)=((j+1:Nat):Int):=by rw [wrap_i64];omega
 have hn1:((j+1:Nat):Int).toNat=j+1:=Int.toNat_natCast _
 simp (disch:=first | assumption | exact .symm ‹_› | omega) only [fu129,hFb,↓ZD,ZW,simprocAttr]
 refine NewB.n ?_
 rintro b1 ⟨_,_,_⟩ hF1
 simp (disch:=first | assumption | exact .symm ‹_› | omega) only [hFb,hF1,hw1,↓ZD,ZW,simprocAttr]
 unfold nameG
 by_cases ht:wtx ws p=[116,114,117,101]∨wtx ws p=[102,97,108,115,101]
 ·have hb1:(wtx ws p==[116,114,117,101]||wtx ws p==[102,97,108,115,101])=true:=by simpa using ht
  rw [if_pos ht]
  simp (disch:=first | assumption | exact .symm ‹_› | omega) only [hFb,hF1,hw1,hb1,↓ZD,ZW,simprocAttr]
  refine CallE.pure (lit_pure F ⟨1,wtx ws p==[116,114,117,101],0,[],[],[]⟩) ?_
  simp (disch:=first | assumption | exact .symm ‹_› | omega) only [hFb,hF1,hw1,xcells,↓ZD,ZW,simprocAttr]
  exact PFin.m (cs:=xcells 1 ⟨1,wtx ws p==[116,114,117,101],0,[],[],[]⟩ (.slice none 0 0) (.slice none 0 0) [] (.slice none 0 0) (.slice none 0 0)) [] (Agr.rfl' (s:=adv p)) (by simp [adv,hj]) ⟨rfl,rfl,rfl,rfl⟩ (fun _=>repP_leaf (i64_lit rfl) (i64_lit rfl) (i64_lit rfl)) trivial Wk.nil all_nil
 ·have hb1:(wtx ws p==[116,114,117,101]||wtx ws p==[102,97,108,115,101])=false:=by rw [Bool.eq_false_iff];intro h;exact ht (by simpa using h)
  rw [if_neg ht]
  by_cases hlt:j+1 < ws.length
  ·have hdl:decide (((j+1:Nat):Int) < (ws.length:Int))=true:=by simp;omega
   have hld0:=wds_at0 (sp:=sp) (T:=T) (fz:=fz) hlt
   have hld1:=wds_at1 (sp:=sp) (T:=T) (fz:=fz) hlt
   have hwd:wdAt ws (p.p+1)=ws.getD (j+1) ((0,[],0),0):=by rw [show p.p+1=((j+1:Nat):Int) by omega,wdAt_in hlt]
   rw [hwd]
   simp (disch:=first | assumption | exact .symm ‹_› | omega) only [hFb,hF1,hw1,hb1,hdl,hld0,hld1,hn1,hFw,↓ZD,ZW,simprocAttr]
   refine conj.of (by omega) ?_
   simp (disch:=first | assumption | exact .symm ‹_› | omega) only [hFb,hF1,hw1,hb1,hdl,hld0,hld1,hn1,hFw,↓ZD,ZW,simprocAttr]
   refine conj.of (fun _=>by omega) ?_
   simp (disch:=first | assumption | exact .symm ‹_› | omega) only [hFb,hF1,hw1,hb1,hdl,hld0,hld1,hn1,hFw,↓ZD,ZW,simprocAttr]
   have hcd:∀ w:Wd×Nat,((((w.1.1:Nat):Int)==5&&w.1.2.1==[58,58])=true)=(((w.1.1:Nat):Int)=5∧w.1.2.1=[58,58]):=fun w=>by rw [Bool.and_eq_true,beq_iff_eq,beq_iff_eq]
   refine ⟨fun h=>?_,fun h=>?_⟩
   ·rw [hcd] at h
    rw [if_pos h]
    refine CallE.rdq (uid_q hws hW p) rfl (by simp only [*,↓ZD,ZW,RO,simprocAttr]) ?_
    simp (disch:=first | assumption | exact .symm ‹_› | omega) only [hFb,hF1,hw1,↓ZD,ZW,simprocAttr]
    refine CallE.pure (lit_pure F ⟨4,false,0,[],(uidS ws p).1.1,(uidS ws p).1.2⟩) ?_
    simp (disch:=first | assumption | exact .symm ‹_› | omega) only [hFb,hF1,hw1,xcells,↓ZD,ZW,simprocAttr]
    exact PFin.m (cs:=xcells 1 ⟨4,false,0,[],(uidS ws p).1.1,(uidS ws p).1.2⟩ (.slice none 0 0) (.slice none 0 0) [] (.slice none 0 0) (.slice none 0 0)) [] Agr.rfl' rfl ⟨rfl,rfl,rfl,rfl⟩ (fun _=>repP_leaf (i64_lit rfl) (i64_lit rfl) (i64_lit rfl)) trivial Wk.nil all_nil
   ·rw [if_neg fun h2=>by rw [← hcd] at h2;rw [h2] at h;cases h]
    refine conj.of (by omega) ?_
    simp (disch:=first | assumption | exact .symm ‹_› | omega) only [hFb,hF1,hw1,hb1,hdl,hld0,hld1,hn1,hFw,List.length_append,↓ZD,ZW,simprocAttr]
    refine conj.of (by first | omega | (simp only [List.length_append,List.length_cons,List.length_nil];omega)) ?_
    simp (disch:=first | assumption | exact .symm ‹_› | omega) only [hFb,hF1,hw1,hb1,hdl,hld0,hld1,hn1,hFw,↓ZD,ZW,simprocAttr]
    have hh:=strHas_pure F hMx varsL ([124]++wtx ws p++[124]) (by decide)
    rw [has_var h124] at hh
    simp only [List.cons_append,List.nil_append,varsL] at hh
    refine CallE.pure hh ?_
    by_cases hv:wtx ws p∈varL
    ·have hvb:decide (wtx ws p∈varL)=true:=decide_eq_true hv
     rw [if_pos hv]
     simp (disch:=first | assumption | exact .symm ‹_› | omega) only [hFb,hF1,hw1,hb1,hdl,hld0,hld1,hn1,hFw,hvb,↓ZD,ZW,simprocAttr]
     exact PFin.m (cs:=xcells 2 lv0 (.slice none 0 0) (.slice none 0 0) (wtx ws p) (.slice none 0 0) (.slice none 0 0)) [] (Agr.rfl' (s:=adv p)) (by simp [adv,hj]) ⟨rfl,rfl,rfl,rfl⟩ (fun _=>repP_leaf (i64_lit rfl) (i64_lit rfl) (i64_lit rfl)) trivial Wk.nil all_nil
    ·have hvb:decide (wtx ws p∈varL)=false:=decide_eq_false hv
     rw [if_neg hv]
     simp (disch:=first | assumption | exact .symm ‹_› | omega) only [hFb,hF1,hw1,hb1,hdl,hld0,hld1,hn1,hFw,hvb,↓ZD,ZW,simprocAttr]
     refine CallE.rdq (fail_q hW p 10) rfl (by simp only [*,↓ZD,ZW,RO,simprocAttr]) ?_
     simp (disch:=first | assumption | exact .symm ‹_› | omega) only [hFb,hF1,hw1,hb1,hdl,hld0,hld1,hn1,hFw,↓ZD,ZW,simprocAttr]
     exact PFin.m [] Agr.rfl' rfl ⟨rfl,rfl,rfl,rfl⟩ (fun h=>absurd h (failS_e (by decide))) trivial Wk.nil all_nil
  ·have hdl:decide (((j+1:Nat):Int) < (ws.length:Int))=false:=by simp;omega
   have hwd:((wdAt ws (p.p+1)).1.1:Int)≠5:=by rw [wdAt_out (by omega)];show (0:Int)≠5;decide
   obtain ⟨o1,v1,e1⟩:=ldV_ex F [(b1,.cells zx.toArray 31 (0,0)),(b,RdO (.slice (some ⟨bw,0,none⟩) ws.length cap) p)] 1 (.pointer (some ⟨bw,(j+1) * 4,none⟩))
   obtain ⟨o2,c2,e2⟩:=binq_eql_ex v1 (.int .i64 5)
   obtain ⟨o3,v3,e3⟩:=ldV_ex F [(b1,.cells zx.toArray 31 (0,0)),(b,RdO (.slice (some ⟨bw,0,none⟩) ws.length cap) p)] 1 (.pointer (some ⟨bw,(j+1) * 4+1,none⟩))
   obtain ⟨o4,c4,e4⟩:=binq_eql_ex v3 (.string (bs [58,58]))
   simp (disch:=first | assumption | exact .symm ‹_› | omega) only [hFb,hF1,hw1,hb1,hdl,↓e1,e2,↓e3,e4,hn1,↓ZD,ZW,simprocAttr]
   rw [if_neg fun h=>hwd h.1]
   refine conj.of (by omega) ?_
   simp (disch:=first | assumption | exact .symm ‹_› | omega) only [hFb,hF1,hw1,hb1,hdl,↓e1,e2,↓e3,e4,hn1,List.length_append,↓ZD,ZW,simprocAttr]
   refine conj.of (by first | omega | (simp only [List.length_append,List.length_cons,List.length_nil];omega)) ?_
   simp (disch:=first | assumption | exact .symm ‹_› | omega) only [hFb,hF1,hw1,hb1,hdl,↓e1,e2,↓e3,e4,hn1,↓ZD,ZW,simprocAttr]
   have hh:=strHas_pure F hMx varsL ([124]++wtx ws p++[124]) (by decide)
   rw [has_var h124] at hh
   simp only [List.cons_append,List.nil_append,varsL] at hh
   refine CallE.pure hh ?_
   by_cases hv:wtx ws p∈varL
   ·have hvb:decide (wtx ws p∈varL)=true:=decide_eq_true hv
    rw [if_pos hv]
    simp (disch:=first | assumption | exact .symm ‹_› | omega) only [hFb,hF1,hw1,hb1,hdl,↓e1,e2,↓e3,e4,hn1,hvb,↓ZD,ZW,simprocAttr]
    exact PFin.m (cs:=xcells 2 lv0 (.slice none 0 0) (.slice none 0 0) (wtx ws p) (.slice none 0 0) (.slice none 0 0)) [] (Agr.rfl' (s:=adv p)) (by simp [adv,hj]) ⟨rfl,rfl,rfl,rfl⟩ (fun _=>repP_leaf (i64_lit rfl) (i64_lit rfl) (i64_lit rfl)) trivial Wk.nil all_nil
   ·have hvb:decide (wtx ws p∈varL)=false:=decide_eq_false hv
    rw [if_neg hv]
    simp (disch:=first | assumption | exact .symm ‹_› | omega) only [hFb,hF1,hw1,hb1,hdl,↓e1,e2,↓e3,e4,hn1,hvb,↓ZD,ZW,simprocAttr]
    refine CallE.rdq (fail_q hW p 10) rfl (by simp only [*,↓ZD,ZW,RO,simprocAttr]) ?_
    simp (disch:=first | assumption | exact .symm ‹_› | omega) only [hFb,hF1,hw1,hb1,hdl,↓e1,e2,↓e3,e4,hn1,↓ZD,ZW,simprocAttr]
    exact PFin.m [] Agr.rfl' rfl ⟨rfl,rfl,rfl,rfl⟩ (fun h=>absurd h (failS_e (by decide))) trivial Wk.nil all_nil
structure ItS where
 p:St
 s:St
 ks:List Ex'
 ns:List Str
 css:List (List Value)
 vk:Value
 vn:Value
 Hk:Hp
 Hn:Hp
 G:Hp
abbrev outO (op:Int) (vk vn:Value):Obj:=.cells #[Value.int IntKind.i64 op,Value.int IntKind.i64 0,Value.bool false,Value.int IntKind.i64 0,Value.string (bs []),Value.string (bs []),Value.string (bs []),Value.slice none 0 0,Value.slice none 0 0,Value.string (bs []),vk,vn] 31 (0,0)
def itH (l:Value) (b bo:Nat) (op:Int) (y:ItS):Hp:=(b,RdO l y.p)::(bo,outO op y.vk y.vn)::(y.Hk++(y.Hn++y.G))
def Off (b bo:Nat) (H:Hp):Prop:=∀ e∈H,e.1≠b∧e.1≠bo
structure ItOk (F:Base) (b bo:Nat) (y:ItS):Prop where
 A:Agr y.p y.s
 g:Good y.s
 hk:OwnS F 12 31 y.css.flatten y.css.length y.vk y.Hk
 h12:∀ c∈y.css,c.length=12
 hn:OwnS F 1 9 (y.ns.map fun s=>Value.string (bs s)) y.ns.length y.vn y.Hn
 nl:∀ s∈y.ns,s.length≤65536
 r:y.s.e=0→y.css.length=y.ks.length∧∀ (i:Nat) (c:List Value) (t:Ex'),y.css[i]?=some c→y.ks[i]?=some t→RepP (rdObj F y.G) c t
 ok:Off b bo y.Hk
 on:Off b bo y.Hn
 og:Off b bo y.G
 kn:∀ e∈y.Hk,∀ e'∈y.Hn,e.1≠e'.1
 kg:∀ e∈y.Hk,∀ e'∈y.G,e.1≠e'.1
 ng:∀ e∈y.Hn,∀ e'∈y.G,e.1≠e'.1
 w:Wk y.G
 le:y.ns.length≤y.css.length
theorem own_lk {F:Base} {n T len:Nat} {l:List Value} {v:Value} {A Hk R H:Hp} (ho:OwnS F n T l len v Hk) (hH:H=A++(Hk++R)) (hA:∀ e∈A,∀ e'∈Hk,e.1≠e'.1):∀ e∈Hk,lk H e.1=some e.2:=fun e he=>by
 rw [hH,lk_append,lk_none fun e' he'=>hA e' he' e he,lk_append]
 have:=ho.lk [] (fun _ h=>by cases h) e he
 rw [List.nil_append] at this
 rw [this]
theorem flat_len12 {css:List (List Value)} (h:∀ c∈css,c.length=12):css.flatten.length=css.length * 12:=by
 induction css with
 | nil=>rfl
 | cons x r ih=>rw [List.flatten_cons,List.length_append,h x List.mem_cons_self,ih fun c hc=>h c (List.mem_cons_of_mem _ hc),List.length_cons];omega
theorem OwnS.sub {F:Base} {n T len:Nat} {l:List Value} {v:Value} {Hk:Hp} (ho:OwnS F n T l len v Hk):Wk Hk:=fun e he=>by
 have:=ho.lk [] (fun _ h=>by cases h) e he
 rwa [List.nil_append] at this
theorem names_sls {F:Base} {T:Nat} {ns:List Str} {v:Value} {Hn H:Hp} (ho:OwnS F 1 T (ns.map fun s=>Value.string (bs s)) ns.length v Hn) (hl:∀ e∈Hn,lk H e.1=some e.2) (hb:∀ s∈ns,s.length≤65536) (hc:ns.length≤9223372036854775807):SlS (rdObj F H) v ns:=by
 rcases ho.out with ⟨h1,h2,rfl,-⟩ | ⟨b,cap,sp,rfl,rfl,hF,h1,h2,h3,h4⟩
 ·have:ns=[]:=List.eq_nil_of_length_eq_zero h2
  subst this;exact slS_nil
 ·refine ⟨_,_,rfl,h3,hc,fun i s hs=>?_,fun i s hs=>Nat.le_trans (hb s (List.mem_of_getElem? hs)) (by decide)⟩
  have hlt:i < ns.length:=(List.getElem?_eq_some_iff.mp hs).1
  refine ⟨b,0,_,_,_,rfl,(rdObj_own hF).trans (hl _ (List.mem_singleton.2 rfl)),by simp;omega,?_⟩
  simp only [Nat.zero_add,Nat.mul_one]
  rw [List.drop_append_of_le_length (by simp;omega),List.take_append_of_le_length (by simp;omega)]
  apply List.ext_getElem?
  intro k
  rcases k with _ | k
  ·simp [hs]
  ·simp;omega
theorem it_rep {F:Base} {b bo:Nat} {op:Int} {y:ItS} (h:ItOk F b bo y) (hop:I64 op) (he:y.s.e=0) (hc:y.css.length≤65540) :
  RepP (rdObj F (y.Hk++(y.Hn++y.G))) (xcells op lv0 (.slice none 0 0) (.slice none 0 0) [] y.vk y.vn) (.mk op lv0 [] y.ks y.ns):=by
 obtain ⟨hlen,hr⟩:=h.r he
 have hle:=h.le
 have hN:SlS (rdObj F (y.Hk++(y.Hn++y.G))) y.vn y.ns:=names_sls h.hn (own_lk h.hn rfl h.kn) h.nl (by omega)
 have up:∀ b o,rdObj F y.G b=some o→rdObj F (y.Hk++(y.Hn++y.G)) b=some o:=fun _ _ hb=>rdObj_sub (fun e he=>by
  rw [lk_append,lk_none fun e' he'=>h.kg e' he' e he,lk_append,lk_none fun e' he'=>h.ng e' he' e he]
  exact h.w e he) hb
 rcases h.hk.out with ⟨h1,h2,hv,-⟩ | ⟨bk,cap,sp,hv,hH,hF,h1,h2,h3,h4⟩
 ·have hk0:y.ks=[]:=List.eq_nil_of_length_eq_zero (by omega)
  rw [hv,hk0]
  exact .mk op lv0 [] none 0 [] (fun _=>[]) _ _ hop (i64_lit rfl) (i64_lit rfl) (Nat.zero_le _) (Nat.le_refl _) (fun i t h=>by simp at h) (fun i t h=>by simp at h) hN
 ·rw [hv,hlen]
  refine repP_node (bk:=bk) (css:=y.css) (sp:=sp) (T:=31) (fz:=(0,0)) hop (i64_lit rfl) (i64_lit rfl) ?_ hlen (by omega) (by omega) (fun i c t hc ht=>(hr i c t hc ht).mono up) hN
  refine (rdObj_own hF).trans ?_
  have:=own_lk (A:=[]) (R:=y.Hn++y.G) h.hk rfl (fun _ h=>by cases h) (bk,.cells (y.css.flatten++sp).toArray 31 (0,0)) (by rw [hH];exact List.mem_singleton.2 rfl)
  exact this
theorem ItOk.add {F:Base} {b bo:Nat} {p1 s2:St} {ks:List Ex'} {ns:List Str} {css:List (List Value)} {vn:Value} {Hn G1:Hp} {cs1 sp:List Value} {x:Ex'} {b2 cap:Nat} (hA1:Agr p1 s2) (hg2:Good s2) (h12:∀ c∈css,c.length=12) (hc1:cs1.length=12)
  (hn:OwnS F 1 9 (ns.map fun s=>Value.string (bs s)) ns.length vn Hn) (hnl:∀ s∈ns,s.length≤65536) (hr:s2.e=0→(css.length=ks.length∧∀ (i:Nat) (c:List Value) (t:Ex'),css[i]?=some c→ks[i]?=some t→RepP (rdObj F G1) c t)∧RepP (rdObj F G1) cs1 x)
  (hF2:F b2=none) (hs:sp.length=(cap - (css.length+1)) * 12) (hcap:css.length+1≤cap) (hcm:cap≤9223372036854775807) (n2b:b≠b2) (n2o:bo≠b2) (on:Off b bo Hn) (nG1:∀ e∈G1,e.1≠b) (gbo:∀ e∈G1,e.1≠bo) (n2n:∀ e∈Hn,e.1≠b2) (n2g:∀ e∈G1,e.1≠b2)
  (ng1:∀ e∈Hn,∀ e'∈G1,e.1≠e'.1) (hw1:Wk G1) (hle:ns.length≤css.length+1) :
  ItOk F b bo ⟨p1,s2,ks++[x],ns,css++[cs1],.slice (some ⟨b2,0,none⟩) (css.length+1) cap,vn,[(b2,.cells (css.flatten++cs1++sp).toArray 31 (0,0))],Hn,G1⟩ where
 A:=hA1
 g:=hg2
 hk:=OwnS.mk sp hF2 (by simp) (by simp) (by rw [flat_len12 fun c hc=>by
  rcases List.mem_append.1 hc with h | h
  ·exact h12 c h
  ·rw [List.mem_singleton.1 h];exact hc1]) (by simpa using hs) (by simpa using hcap) hcm
 h12:=fun c hc=>by
  rcases List.mem_append.1 hc with h | h
  ·exact h12 c h
  ·rw [List.mem_singleton.1 h];exact hc1
 hn:=hn
 nl:=hnl
 r := fun he=>by
  obtain ⟨⟨hl,hi⟩,hx⟩:=hr he
  refine ⟨by simp [hl],fun i c t hc ht=>?_⟩
  rcases Nat.lt_trichotomy i css.length with h | h | h
  ·rw [List.getElem?_append_left h] at hc
   rw [List.getElem?_append_left (by omega)] at ht
   exact hi i c t hc ht
  ·subst h
   rw [List.getElem?_append_right (Nat.le_refl _),Nat.sub_self] at hc
   rw [hl,List.getElem?_append_right (Nat.le_refl _),Nat.sub_self] at ht
   simp only [List.getElem?_cons_zero,Option.some.injEq] at hc ht
   subst hc ht;exact hx
  ·rw [List.getElem?_eq_none (by simp;omega)] at hc;cases hc
 ok:=fun e he=>by rw [List.mem_singleton.1 he];exact ⟨n2b.symm,n2o.symm⟩
 on:=on
 og:=fun e he=>⟨nG1 e he,gbo e he⟩
 kn:=fun e he e' he'=>by rw [List.mem_singleton.1 he];exact (n2n e' he').symm
 kg:=fun e he e' he'=>by rw [List.mem_singleton.1 he];exact (n2g e' he').symm
 ng:=ng1
 w:=hw1
 le:=by simpa using hle
def OneC (F:Base) (ws:Ws) (l:Value) (b bo:Nat) (op:Int) (fv:Value) (n:Nat):Prop:=∃ f ca,fv=.func (.func f) #[] ca∧callable Tryz.prog f=true∧∀ (y:ItS) (x:Ex') (s2:St),ItOk F b bo y→y.css.length≤65540→(op≠20→y.ns=[])→G ws n .expr (headS ws op y.ns y.s).2=some (x,s2) →
 Does Tryz.prog F f ca (itH l b bo op y) (fun r H'=>r=.tuple #[]∧∃ y',ItOk F b bo y'∧y'.s=s2∧y'.ns=(headS ws op y.ns y.s).1∧(s2.e=0→y'.ks=y.ks++[x])∧y'.css.length=y.css.length+1∧H'=itH l b bo op y')
end Go.Proofs.YtoelfmmfjebabaaGreatDoor
