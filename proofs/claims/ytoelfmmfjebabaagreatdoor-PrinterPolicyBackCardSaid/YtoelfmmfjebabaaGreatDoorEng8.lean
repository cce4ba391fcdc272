/- The engine, part 6: the other quiet operations. -/
import Derived.Test.YtoelfmmfjebabaaGreatDoorEng5
namespace Go.Eng
open Go
section
variable {P:Program} {F:Base} {H:Hp} {a:Act} {r rT rF:X→Option Value} {ob:Prop} {v:Value}
theorem gives_un (hr:Rd a r) {o:Oper} {op:UnOp} {t:TypeId} {x:Operand} (hop:o.op=.unOp op t x)
    (hq:qev F H r rT rF (.un op (X.of x))=some (ob,v)):Gives P F H a o v:=by
  simp only [qev] at hq
  split at hq
  case h_2=>cases hq
  rename_i va h1
  simp only [Option.map_eq_some_iff,Prod.mk.injEq] at hq
  obtain ⟨v',h2,h3,rfl⟩:=hq
  have e1:=hr.ev h1
  refine gives_v (s:=Op.unary op (a.eval x)) (by unfold execOp;rw [hop]) ?_
  rw [e1]
  unfold unq at h2
  split at h2
  · simp only [Option.some.injEq] at h2;subst h2;exact rfl
  · simp only [Option.some.injEq] at h2;subst h2;exact rfl
  · cases h2
theorem gives_conv (hr:Rd a r) {o:Oper} {k0 k:IntKind} {s d:TypeId} {x:Operand} (hop:o.op=.convert s d x) (hs:P.underlying s=some (.int k0)) (hd:P.underlying d=some (.int k))
    (hq:qev F H r rT rF (.conv k (X.of x))=some (ob,v)):Gives P F H a o v:=by
  simp only [qev] at hq
  split at hq
  case h_2=>cases hq
  rename_i kk n h1
  simp only [Option.some.injEq,Prod.mk.injEq] at hq
  obtain ⟨rfl,rfl⟩:=hq
  have e1:=hr.ev h1
  refine gives_v (s:=convert s d (a.eval x)) (by unfold execOp;rw [hop]) ?_
  rw [e1]
  unfold convert
  simp only [semq_bind,semq_underlying hs,semq_underlying hd]
  exact rfl
theorem gives_ext (hr:Rd a r) {o:Oper} {x:Operand} {i:Nat} (hop:o.op=.extract x i)
    (hq:qev F H r rT rF (.ext (X.of x) i)=some (ob,v)):Gives P F H a o v:=by
  simp only [qev] at hq
  split at hq
  case h_2=>cases hq
  rename_i vs h1
  simp only [Option.map_eq_some_iff,Prod.mk.injEq] at hq
  obtain ⟨v',h2,h3,rfl⟩:=hq
  have e1:=hr.ev h1
  refine gives_v (s:=Instr.extract (a.eval x) i) (by unfold execOp;rw [hop]) ?_
  rw [e1]
  unfold Instr.extract
  simp only [h2]
  exact rfl
theorem gives_add (hr:Rd a r) {o:Oper} {s:TypeId} {x:Operand} {i:Nat} (hop:o.op=.fieldAddr s x i) {off n:Nat} {t:TypeId} (hf:fieldO P s i=some (off,n,t))
    (hq:qev F H r rT rF (.add off (X.of x))=some (ob,v)) (hob:ob):Gives P F H a o v:=by
  simp only [qev] at hq
  split at hq
  case h_2=>simp only [Option.some.injEq,Prod.mk.injEq] at hq;exact (hq.1 ▸ hob:False).elim
  case h_3=>cases hq
  rename_i b of' h1
  simp only [Option.some.injEq,Prod.mk.injEq] at hq
  obtain ⟨rfl,rfl⟩:=hq
  have e1:=hr.ev h1
  refine gives_v (s:=Instr.fieldAt s (a.eval x) i) (by unfold execOp;rw [hop]) ?_
  rw [e1]
  unfold fieldO at hf
  split at hf
  case h_2=>cases hf
  rename_i fs hu
  split at hf
  case h_2=>cases hf
  rename_i f hfi
  split at hf
  · cases hf
  · rename_i m hne hm
    simp only [Option.some.injEq,Prod.mk.injEq] at hf
    obtain ⟨rfl,rfl,rfl⟩:=hf
    unfold Instr.fieldAt
    simp only [semq_bind,semq_underlying hu,hfi]
    unfold Instr.sureAddr fieldPlace
    simp only [semq_pure,semq_bind,semq_sizeOf hm]
    rw [if_neg (fun e=>hne (by rw [← e]))]
    simp only [semq_pure,add_eq]
  · cases hf
theorem semq_part {t:TypeId} {cs:Array Value} {off n:Nat} {g:Bool} (hn:szO P t=some n) (hg:aggB P t=some g) {K:Value→Prop}
    (h:if g then K (.agg ((cs.toList.drop off).take n).toArray) else (off < cs.size∧K (cs.getD off undef))):semq P F H (part t cs off) K:=by
  unfold part
  rw [semq_bind,semq_isAgg hg]
  cases g with
  | true=>
    simp only [if_true,semq_bind,semq_sizeOf hn,semq_pure] at h ⊢
    have:cs.extract off (off+n)=((cs.toList.drop off).take n).toArray:=by
      apply Array.ext'
      simp [List.take_drop]
    rw [this];exact h
  | false=>
    simp only [if_false,Bool.false_eq_true] at h ⊢
    obtain ⟨h1,h2⟩:=h
    rw [Array.getElem?_eq_getElem h1]
    simp only [semq_pure]
    have:cs.getD off undef=cs[off]:=by simp [Array.getD,h1]
    rw [← this];exact h2
theorem gives_fld (hr:Rd a r) {o:Oper} {s:TypeId} {x:Operand} {i:Nat} (hop:o.op=.field s x i) {off n:Nat} {t:TypeId} {g:Bool} (hf:fieldO P s i=some (off,n,t)) (hg:aggB P t=some g)
    (hq:qev F H r rT rF (.fld off n g (X.of x))=some (ob,v)) (hob:ob):Gives P F H a o v:=by
  simp only [qev] at hq
  split at hq
  case h_2=>cases hq
  rename_i cs h1
  have e1:=hr.ev h1
  refine gives_v (s:=Instr.field s (a.eval x) i) (by unfold execOp;rw [hop]) ?_
  rw [e1]
  unfold fieldO at hf
  split at hf
  case h_2=>cases hf
  rename_i fs hu
  split at hf
  case h_2=>cases hf
  rename_i f hfi
  split at hf
  · cases hf
  · rename_i m hne hm
    simp only [Option.some.injEq,Prod.mk.injEq] at hf
    obtain ⟨rfl,rfl,rfl⟩:=hf
    unfold Instr.field
    simp only [semq_bind,semq_underlying hu,hfi]
    unfold asAgg
    simp only [semq_pure]
    refine semq_part hm hg ?_
    cases g with
    | true=>simp only [if_true,Option.some.injEq,Prod.mk.injEq] at hq ⊢;exact hq.2
    | false=>simp only [Bool.false_eq_true,if_false,Option.some.injEq,Prod.mk.injEq] at hq ⊢;exact ⟨hq.1 ▸ hob,hq.2⟩
  · cases hf
theorem gives_ixA (hr:Rd a r) {o:Oper} {t:TypeId} {x i:Operand} (hop:o.op=.indexAddr t x i) {len n:Nat} {e:TypeId} (hu:P.underlying t=some (.array len e)) (hn:szO P e=some n)
    (hq:qev F H r rT rF (.ixA len n (X.of x) (X.of i))=some (ob,v)) (hob:ob):Gives P F H a o v:=by
  simp only [qev] at hq
  split at hq
  case h_2=>cases hq
  rename_i b off kk k h1 h2
  simp only [Option.some.injEq,Prod.mk.injEq] at hq
  obtain ⟨rfl,rfl⟩:=hq
  have e1:=hr.ev h1
  have e2:=hr.ev h2
  refine gives_v (s:=Instr.indexAt t (a.eval x) (a.eval i)) (by unfold execOp;rw [hop]) ?_
  rw [e1,e2]
  unfold Instr.indexAt asIntOf Instr.sureAddr
  simp only [semq_bind,semq_pure,semq_underlying hu]
  rw [if_pos hob]
  simp only [semq_bind,semq_sizeOf hn,semq_pure,add_eq]
theorem gives_ixS (hr:Rd a r) {o:Oper} {t:TypeId} {x i:Operand} (hop:o.op=.indexAddr t x i) {n:Nat} {e:TypeId} (hu:P.underlying t=some (.slice e)) (hn:szO P e=some n)
    (hq:qev F H r rT rF (.ixS n (X.of x) (X.of i))=some (ob,v)) (hob:ob):Gives P F H a o v:=by
  simp only [qev] at hq
  split at hq
  case h_2=>simp only [Option.some.injEq,Prod.mk.injEq] at hq;exact (hq.1 ▸ hob:False).elim
  case h_3=>cases hq
  rename_i b off len cap kk k h1 h2
  simp only [Option.some.injEq,Prod.mk.injEq] at hq
  obtain ⟨rfl,rfl⟩:=hq
  have e1:=hr.ev h1
  have e2:=hr.ev h2
  refine gives_v (s:=Instr.indexAt t (a.eval x) (a.eval i)) (by unfold execOp;rw [hop]) ?_
  rw [e1,e2]
  unfold Instr.indexAt asIntOf
  simp only [semq_bind,semq_pure,semq_underlying hu]
  rw [if_pos hob]
  simp only [semq_bind,semq_sizeOf hn,semq_pure,add_eq]
theorem bytes_get (s:ByteArray) (k:Nat) (h:k < s.data.toList.length):s[k]?=some (s.data.toList.getD k 0):=by
  have h':k < s.data.size:=by simpa using h
  have h2:k < s.size:=h'
  rw [getElem?_pos s k h2]
  have e:s[k]=s.data[k]:=rfl
  rw [e]
  simp only [List.getD_eq_getElem?_getD,Array.getElem?_toList,Array.getElem?_eq_getElem h',Option.getD_some]
theorem gives_ixStr (hr:Rd a r) {o:Oper} {t:TypeId} {x i:Operand} (hop:o.op=.index t x i) (hu:P.underlying t=some .string)
    (hq:qev F H r rT rF (.ixStr (X.of x) (X.of i))=some (ob,v)) (hob:ob):Gives P F H a o v:=by
  simp only [qev] at hq
  split at hq
  case h_2=>cases hq
  rename_i s kk k h1 h2
  simp only [Option.some.injEq,Prod.mk.injEq] at hq
  obtain ⟨rfl,rfl⟩:=hq
  have e1:=hr.ev h1
  have e2:=hr.ev h2
  refine gives_v (s:=Instr.index t (a.eval x) (a.eval i)) (by unfold execOp;rw [hop]) ?_
  rw [e1,e2]
  unfold Instr.index asIntOf
  simp only [semq_bind,semq_pure,semq_underlying hu]
  rw [if_pos hob.1,bytes_get s k.toNat (by omega)]
  exact rfl
theorem gives_ixAgg (hr:Rd a r) {o:Oper} {t:TypeId} {x i:Operand} (hop:o.op=.index t x i) {len n:Nat} {e:TypeId} {g:Bool} (hu:P.underlying t=some (.array len e)) (hn:szO P e=some n) (hg:aggB P e=some g)
    (hq:qev F H r rT rF (.ixAgg len n g (X.of x) (X.of i))=some (ob,v)) (hob:ob):Gives P F H a o v:=by
  simp only [qev] at hq
  split at hq
  case h_2=>cases hq
  rename_i cs kk k h1 h2
  have e1:=hr.ev h1
  have e2:=hr.ev h2
  refine gives_v (s:=Instr.index t (a.eval x) (a.eval i)) (by unfold execOp;rw [hop]) ?_
  rw [e1,e2]
  unfold Instr.index asIntOf
  simp only [semq_bind,semq_pure,semq_underlying hu]
  cases g with
  | true=>
    simp only [if_true,Option.some.injEq,Prod.mk.injEq] at hq
    obtain ⟨rfl,rfl⟩:=hq
    rw [if_pos ⟨hob.1,hob.2.1⟩]
    simp only [semq_bind,semq_sizeOf hn]
    exact semq_part hn hg rfl
  | false=>
    simp only [Bool.false_eq_true,if_false,Option.some.injEq,Prod.mk.injEq] at hq
    obtain ⟨rfl,rfl⟩:=hq
    rw [if_pos ⟨hob.1,hob.2.1⟩]
    simp only [semq_bind,semq_sizeOf hn]
    exact semq_part hn hg ⟨hob.2.2,rfl⟩
theorem gives_ld (hr:Rd a r) {o:Oper} {t:TypeId} {x:Operand} (hop:o.op=.load t x) {n:Nat} {g:Bool} (hn:szO P t=some n) (hg:aggB P t=some g)
    (hq:qev F H r rT rF (.ld n g (X.of x))=some (ob,v)) (hob:ob):Gives P F H a o v:=by
  simp only [qev] at hq
  split at hq
  case h_2=>simp only [Option.some.injEq,Prod.mk.injEq] at hq;exact (hq.1 ▸ hob:False).elim
  case h_3=>cases hq
  rename_i b off h1
  split at hq
  case h_2=>simp only [Option.some.injEq,Prod.mk.injEq] at hq;exact (hq.1 ▸ hob:False).elim
  rename_i l hl
  have e1:=hr.ev h1
  refine gives_v (s:=Instr.loadAt t (a.eval x)) (by unfold execOp;rw [hop]) ?_
  rw [e1]
  unfold Instr.loadAt Instr.sureAddr loadVar
  simp only [semq_bind,semq_pure,semq_isAgg hg]
  cases g with
  | true=>
    simp only [if_true,Option.some.injEq,Prod.mk.injEq] at hq ⊢
    obtain ⟨rfl,rfl⟩:=hq
    simp only [semq_bind,semq_sizeOf hn]
    exact semq_loadCells hl rfl
  | false=>
    simp only [Bool.false_eq_true,if_false,Option.some.injEq,Prod.mk.injEq] at hq ⊢
    obtain ⟨rfl,rfl⟩:=hq
    subst hob
    unfold cellsAt at hl
    split at hl
    · rename_i c e f ho
      split at hl
      · rename_i hle
        simp only [Option.some.injEq] at hl
        subst hl
        refine semq_load (v:=c[off]) (by rw [cellOf_at ho];simp) ?_
        rw [List.drop_eq_getElem_cons (by simp;omega)]
        simp
      · cases hl
    · cases hl
theorem gives_lenStr (hr:Rd a r) {o:Oper} {c:Call} {t:TypeId} {x:Operand} (hop:o.op=.call c) (hc:c.callee=.builtin .len) (ha:c.args.toList=[x]) (htt:c.argTypes.toList=[t]) (hu:P.underlying t=some .string)
    (hq:qev F H r rT rF (.lenStr (X.of x))=some (ob,v)) (hob:ob):Gives P F H a o v:=by
  simp only [qev] at hq
  split at hq
  case h_2=>simp only [Option.some.injEq,Prod.mk.injEq] at hq;exact (hq.1 ▸ hob:False).elim
  case h_3=>cases hq
  rename_i s h1
  simp only [Option.some.injEq,Prod.mk.injEq] at hq
  obtain ⟨rfl,rfl⟩:=hq
  have e1:=hr.ev h1
  have ha':c.args=#[x]:=by rw [← Array.toArray_toList (xs:=c.args),ha]
  have ht':c.argTypes=#[t]:=by rw [← Array.toArray_toList (xs:=c.argTypes),htt]
  refine gives_v (s:=Builtin.len_ #[t] o.type #[a.eval x]) ?_ ?_
  · unfold execOp;rw [hop];simp only [resolve,hc,ha',ht',List.map_toArray,List.map_cons,List.map_nil];rfl
  · rw [e1]
    unfold Builtin.len_
    simp only [List.getElem?_toArray,List.getElem?_cons_zero,semq_bind,semq_underlying hu,semq_pure]
    rfl
theorem gives_lenSl (hr:Rd a r) {o:Oper} {c:Call} {t e:TypeId} {x:Operand} (hop:o.op=.call c) (hc:c.callee=.builtin .len) (ha:c.args.toList=[x]) (htt:c.argTypes.toList=[t]) (hu:P.underlying t=some (.slice e))
    (hq:qev F H r rT rF (.lenSl (X.of x))=some (ob,v)) (hob:ob):Gives P F H a o v:=by
  simp only [qev] at hq
  split at hq
  case h_2=>simp only [Option.some.injEq,Prod.mk.injEq] at hq;exact (hq.1 ▸ hob:False).elim
  case h_3=>cases hq
  rename_i s n cc h1
  simp only [Option.some.injEq,Prod.mk.injEq] at hq
  obtain ⟨rfl,rfl⟩:=hq
  have e1:=hr.ev h1
  have ha':c.args=#[x]:=by rw [← Array.toArray_toList (xs:=c.args),ha]
  have ht':c.argTypes=#[t]:=by rw [← Array.toArray_toList (xs:=c.argTypes),htt]
  refine gives_v (s:=Builtin.len_ #[t] o.type #[a.eval x]) ?_ ?_
  · unfold execOp;rw [hop];simp only [resolve,hc,ha',ht',List.map_toArray,List.map_cons,List.map_nil];rfl
  · rw [e1]
    unfold Builtin.len_
    simp only [List.getElem?_toArray,List.getElem?_cons_zero,semq_bind,semq_underlying hu,semq_pure]
    rfl
theorem gives_mx (hr:Rd a r) {o:Oper} {c:Call} {x y:Operand} (hop:o.op=.call c) (hc:c.callee=.builtin .max) (ha:c.args.toList=[x,y])
    (hq:qev F H r rT rF (.mx (X.of x) (X.of y))=some (ob,v)) (hob:ob):Gives P F H a o v:=by
  simp only [qev] at hq
  split at hq
  case h_2=>cases hq
  rename_i k m k' n h1 h2
  simp only [Option.some.injEq,Prod.mk.injEq] at hq
  obtain ⟨rfl,rfl⟩:=hq
  subst hob
  have e1:=hr.ev h1
  have e2:=hr.ev h2
  have ha':c.args=#[x,y]:=by rw [← Array.toArray_toList (xs:=c.args),ha]
  refine gives_v (s:=Builtin.max_ c.argTypes o.type #[a.eval x,a.eval y]) ?_ ?_
  · unfold execOp;rw [hop];simp only [resolve,hc,ha',List.map_toArray,List.map_cons,List.map_nil];rfl
  · rw [e1,e2]
    unfold Builtin.max_
    exact rfl
theorem gives_mn (hr:Rd a r) {o:Oper} {c:Call} {x y:Operand} (hop:o.op=.call c) (hc:c.callee=.builtin .min) (ha:c.args.toList=[x,y])
    (hq:qev F H r rT rF (.mn (X.of x) (X.of y))=some (ob,v)) (hob:ob):Gives P F H a o v:=by
  simp only [qev] at hq
  split at hq
  case h_2=>cases hq
  rename_i k m k' n h1 h2
  simp only [Option.some.injEq,Prod.mk.injEq] at hq
  obtain ⟨rfl,rfl⟩:=hq
  subst hob
  have e1:=hr.ev h1
  have e2:=hr.ev h2
  have ha':c.args=#[x,y]:=by rw [← Array.toArray_toList (xs:=c.args),ha]
  refine gives_v (s:=Builtin.min_ c.argTypes o.type #[a.eval x,a.eval y]) ?_ ?_
  · unfold execOp;rw [hop];simp only [resolve,hc,ha',List.map_toArray,List.map_cons,List.map_nil];rfl
  · rw [e1,e2]
    unfold Builtin.min_
    exact rfl
theorem mapM_rd (hr:Rd a r):∀ {xs:List Operand} {vs:List Value},(xs.map X.of).mapM r=some vs→xs.map a.eval=vs
  | [],vs,h=>by simp at h;subst h;rfl
  | x::l,vs,h=>by
    simp only [List.map_cons,List.mapM_cons,Option.bind_eq_bind,Option.bind_eq_some_iff,Option.pure_def,Option.some.injEq] at h
    obtain ⟨v,h1,vs',h2,rfl⟩:=h
    rw [List.map_cons,hr.ev h1,mapM_rd hr h2]
theorem gives_nck (hr:Rd a r) {o:Oper} {x:Operand} (hop:o.op=.nilCheck x)
    (hq:qev F H r rT rF (.nck (X.of x))=some (ob,v)):Gives P F H a o v:=by
  simp only [qev] at hq
  split at hq
  · rename_i p h1
    simp only [Option.some.injEq,Prod.mk.injEq] at hq
    obtain ⟨rfl,rfl⟩:=hq
    have e1:=hr.ev h1
    unfold Gives execOp
    rw [hop]
    simp only [e1]
    exact rfl
  · rename_i f u w h1
    simp only [Option.some.injEq,Prod.mk.injEq] at hq
    obtain ⟨rfl,rfl⟩:=hq
    have e1:=hr.ev h1
    unfold Gives execOp
    rw [hop]
    simp only [e1]
    exact rfl
  · cases hq
theorem gives_mkF (hr:Rd a r) {o:Oper} {fn:Fn} {fi ca:Array Operand} (hop:o.op=.makeFunc fn fi ca)
    (hq:qev F H r rT rF (.mkF fn (fi.toList.map X.of) (ca.toList.map X.of))=some (ob,v)):Gives P F H a o v:=by
  simp only [qev] at hq
  split at hq
  case h_2=>cases hq
  rename_i l1 l2 h1 h2
  simp only [Option.some.injEq,Prod.mk.injEq] at hq
  obtain ⟨rfl,rfl⟩:=hq
  refine gives_v (s:=Instr.makeFunc fn (fi.map a.eval) (ca.map a.eval)) (by unfold execOp;rw [hop]) ?_
  have e1:fi.map a.eval=l1.toArray:=by apply Array.ext';simp [mapM_rd hr h1]
  have e2:ca.map a.eval=l2.toArray:=by apply Array.ext';simp [mapM_rd hr h2]
  rw [e1,e2]
  exact rfl
end
theorem strT_u {P:Program} {t:Nat} (h:strT P t=true):P.underlying t=some .string:=by
  unfold strT at h
  split at h
  · assumption
  · cases h
theorem uidT_form {P : Program} {t : Nat} (h : uidT P t = true) : ∃ f g : Field, P.underlying t = some (.struct #[f, g]) ∧ f.name ≠ "_" ∧ g.name ≠ "_" ∧ f.offset = 0 ∧ g.offset = 1 ∧ P.underlying f.type = some .string ∧ P.underlying g.type = some .string ∧ szO P f.type = some 1 ∧ szO P g.type = some 1 ∧ P.stoodInHeld t = false ∧ P.eqGuardType P.depth t = false := by
  unfold uidT at h
  split at h
  · rename_i fs hu
    split at h
    · rename_i f g hl
      have e:fs=#[f,g]:=by rw [← Array.toArray_toList (xs:=fs),hl]
      subst e
      simp only [Bool.and_eq_true,Bool.not_eq_true',beq_iff_eq,beq_eq_false_iff_ne] at h
      obtain ⟨⟨⟨⟨⟨⟨⟨⟨⟨h1,h2⟩,h3⟩,h4⟩,h5⟩,h6⟩,h7⟩,h8⟩,h9⟩,h10⟩:=h
      exact ⟨f,g,hu,h1,h2,h3,h4,strT_u h5,strT_u h6,h7,h8,h9,h10⟩
    · cases h
  · cases h
section
variable {P:Program} {F:Base} {H:Hp}
theorem semq_equalIn_str {d:Nat} {t:TypeId} {m n:ByteArray} (hu:P.underlying t=some .string) {K:Bool→Prop} (hK:K (m==n)):semq P F H (Op.equalIn (d+1) t (.string m) (.string n)) K:=by
  unfold Op.equalIn
  rw [semq_bind,semq_underlying hu]
  exact hK
theorem aggB_str {t:TypeId} (hu:P.underlying t=some .string):aggB P t=some false:=by unfold aggB;rw [hu]
theorem ba_beq (a b:ByteArray):(a==b)=(a.data.toList==b.data.toList):=by
  cases a with | mk a=>cases b with | mk b=>
  cases a with | mk a=>cases b with | mk b=>
  show (Array.mk a==Array.mk b)=(a==b)
  simp
theorem semq_equalIn_uid {d:Nat} {t:TypeId} {a b c e:ByteArray} (h:uidT P t=true) {K:Bool→Prop} (hK:K (a.data.toList==c.data.toList&&b.data.toList==e.data.toList)) :
    semq P F H (Op.equalIn (d+2) t (.agg #[.string a,.string b]) (.agg #[.string c,.string e])) K:=by
  obtain ⟨f,g,hu,hf,hg,of,og,uf,ug,sf,sg,hs,-⟩:=uidT_form h
  unfold Op.equalIn
  rw [semq_bind,semq_underlying hu]
  simp only [semq_bind,program,semq,hs,Bool.false_eq_true,if_false]
  simp only [List.forIn_toArray,List.forIn_cons,List.forIn_nil,hf,hg,ne_eq,not_false_eq_true,if_true,semq_bind]
  refine semq_part sf (aggB_str uf) ⟨by rw [of];exact Nat.zero_lt_succ _,?_⟩
  refine semq_part sf (aggB_str uf) ⟨by rw [of];exact Nat.zero_lt_succ _,?_⟩
  rw [of]
  refine semq_equalIn_str uf ?_
  rw [ba_beq]
  cases h1:a.data.toList==c.data.toList with
  | false=>
    rw [h1] at hK
    simp only [Bool.not_false,if_true,semq_pure]
    exact hK
  | true=>
    rw [h1,Bool.true_and] at hK
    simp only [Bool.not_true,Bool.false_eq_true,if_false,semq_pure,semq_bind]
    refine semq_part sg (aggB_str ug) ⟨by rw [og];exact Nat.lt_succ_self _,?_⟩
    refine semq_part sg (aggB_str ug) ⟨by rw [og];exact Nat.lt_succ_self _,?_⟩
    rw [og]
    refine semq_equalIn_str ug ?_
    rw [ba_beq]
    cases h2:b.data.toList==e.data.toList with
    | false=>
      rw [h2] at hK
      simp only [Bool.not_false,if_true,semq_pure]
      exact hK
    | true=>
      rw [h2] at hK
      simp only [Bool.not_true,Bool.false_eq_true,if_false,semq_pure]
      exact hK
theorem semq_eqGuard_uid {op:BinOp} {t:TypeId} {x y:Operand} {a b:Array Value} (ho:op=.eql∨op=.neq) (h:uidT P t=true) {K:Unit→Prop} (hK:K ()):semq P F H (eqGuard op t x y (.agg a) (.agg b)) K:=by
  obtain ⟨f,g,hu,hf,hg,of,og,uf,ug,sf,sg,hs,hgt⟩:=uidT_form h
  unfold eqGuard
  rcases ho with rfl | rfl
  · simp only [Bool.not_true,Bool.false_eq_true,if_false,semq_bind,program,semq,hgt,Bool.not_false,if_true]
    exact hK
  · simp only [Bool.not_true,Bool.false_eq_true,if_false,semq_bind,program,semq,hgt,Bool.not_false,if_true]
    exact hK
end
section
variable {P:Program} {F:Base} {H:Hp} {a:Act} {r rT rF:X→Option Value} {ob:Prop} {v:Value}
theorem gives_ueq (hr:Rd a r) {o:Oper} {op:BinOp} {t t':TypeId} {x y:Operand} (hop:o.op=.binOp op t x y t') (ht:op=.eql∨op=.neq) (hu:uidT P t=true)
    (hq:qev F H r rT rF (.ueq (op==.neq) (X.of x) (X.of y))=some (ob,v)) (hob:ob):Gives P F H a o v:=by
  simp only [qev] at hq
  split at hq
  case h_2=>simp only [Option.some.injEq,Prod.mk.injEq] at hq;exact (hq.1 ▸ hob:False).elim
  case h_3=>cases hq
  rename_i m n h1 h2
  split at hq
  case h_2=>simp only [Option.some.injEq,Prod.mk.injEq] at hq;exact (hq.1 ▸ hob:False).elim
  rename_i a1 b1 c1 d1 hm hn
  simp only [Option.some.injEq,Prod.mk.injEq] at hq
  obtain ⟨rfl,rfl⟩:=hq
  obtain rfl:m=#[.string a1,.string b1]:=by rw [← Array.toArray_toList (xs:=m),hm]
  obtain rfl:n=#[.string c1,.string d1]:=by rw [← Array.toArray_toList (xs:=n),hn]
  have e1:=hr.ev h1
  have e2:=hr.ev h2
  have he:execOp a.eval o=(do let x ← (do eqGuard op t x y (a.eval x) (a.eval y);binOp op t (a.eval x) (a.eval y));pure (.value x)):=by
    unfold execOp;rw [hop]
  refine gives_v he ?_
  rw [e1,e2,semq_bind]
  refine semq_eqGuard_uid ht hu ?_
  rcases ht with rfl | rfl
  · have e:binOp .eql t (.agg #[.string a1,.string b1]) (.agg #[.string c1,.string d1])=(Op.equal t (.agg #[.string a1,.string b1]) (.agg #[.string c1,.string d1]) >>= fun z=>pure (Value.bool z)):=by unfold binOp;rfl
    rw [e,semq_bind]
    exact semq_equalIn_uid (d:=9998) hu rfl
  · have e:binOp .neq t (.agg #[.string a1,.string b1]) (.agg #[.string c1,.string d1])=(Op.equal t (.agg #[.string a1,.string b1]) (.agg #[.string c1,.string d1]) >>= fun z=>pure (Value.bool (!z))):=by unfold binOp;rfl
    rw [e,semq_bind]
    exact semq_equalIn_uid (d:=9998) hu rfl
end
end Go.Eng
namespace Go.Eng
open Go
section
variable {P:Program} {F:Base} {H:Hp} {a:Act} {r rT rF:X→Option Value} {ob:Prop} {v:Value}
theorem semq_sliceBound {k:IntKind} {n:Int} {y:Nat} {code:BoundsCode} (h:0≤n∧n≤y) {K:Nat→Prop} (hK:K n.toNat):semq P F H (Instr.sliceBound (.int k n) y code) K:=by
  unfold Instr.sliceBound asIntOf
  simp only [semq_bind,semq_pure]
  rw [if_pos h];exact hK
theorem rdO_some (hr:Rd a r) {d:Int} {x:Option Operand} {n:Int} (h:rdO r d (x.map X.of)=some n):(x=none∧n=d)∨∃ y k,x=some y∧a.eval y=.int k n:=by
  cases x with
  | none=>simp only [Option.map_none,rdO,Option.some.injEq] at h;exact .inl ⟨rfl,h.symm⟩
  | some y=>
    simp only [Option.map_some,rdO,Option.bind_eq_some_iff] at h
    obtain ⟨w,h1,h2⟩:=h
    cases w <;> simp only [bound] at h2 <;> first | (cases h2;done) | skip
    rename_i k m
    simp only [Option.some.injEq] at h2
    subst h2
    exact .inr ⟨y,k,rfl,hr.ev h1⟩
theorem semq_sliceBounds (hr:Rd a r) {isS:Bool} {len cap:Nat} {lo hi:Option Operand} {l h:Int} (hl:rdO r 0 (lo.map X.of)=some l) (hh:rdO r len (hi.map X.of)=some h)
    (hob:0≤l∧l≤h∧h≤cap) {K:Nat×Nat×Nat→Prop} (hK:K (l.toNat,h.toNat,cap)):semq P F H (Instr.sliceBounds isS len cap (lo.map a.eval) (hi.map a.eval) none) K:=by
  rcases rdO_some hr hh with ⟨rfl,rfl⟩ | ⟨y,k,rfl,hy⟩ <;> rcases rdO_some hr hl with ⟨rfl,rfl⟩ | ⟨y',k',rfl,hy'⟩
  · unfold Instr.sliceBounds
    simp only [Option.map_none,semq_bind,semq_pure]
    simpa using hK
  · unfold Instr.sliceBounds
    simp only [Option.map_none,Option.map_some,hy',semq_bind,semq_pure]
    exact semq_sliceBound ⟨by omega,by omega⟩ (by simpa using hK)
  · unfold Instr.sliceBounds
    simp only [Option.map_none,Option.map_some,hy,semq_bind,semq_pure]
    exact semq_sliceBound ⟨by omega,by omega⟩ (by simpa using hK)
  · unfold Instr.sliceBounds
    simp only [Option.map_some,hy,hy',semq_bind,semq_pure]
    exact semq_sliceBound ⟨by omega,by omega⟩ (semq_sliceBound ⟨by omega,by omega⟩ (by simpa using hK))
theorem extract_bs (s:ByteArray) (l h:Nat):s.extract l h=bs ((s.data.toList.take h).drop l):=by
  have e:∀ x:ByteArray,x=⟨x.data⟩:=fun _=>rfl
  rw [e (s.extract l h)]
  unfold bs
  congr 1
  apply Array.ext'
  rw [ByteArray.data_extract]
  simp [List.drop_take]
theorem gives_slStr (hr:Rd a r) {o:Oper} {t:TypeId} {x:Operand} {lo hi:Option Operand} (hop:o.op=.slice t x lo hi none) (hu:P.underlying t=some .string)
    (hq:qev F H r rT rF (.slStr (X.of x) (lo.map X.of) (hi.map X.of))=some (ob,v)) (hob:ob):Gives P F H a o v:=by
  simp only [qev] at hq
  split at hq
  case h_2=>cases hq
  rename_i s h1
  split at hq
  case h_2=>cases hq
  rename_i l h h2 h3
  simp only [Option.some.injEq,Prod.mk.injEq] at hq
  obtain ⟨rfl,rfl⟩:=hq
  have e1:=hr.ev h1
  refine gives_v (s:=Instr.sliceAt t (a.eval x) (lo.map a.eval) (hi.map a.eval) none) (by unfold execOp;rw [hop];try rfl) ?_
  rw [e1]
  unfold Instr.sliceAt
  simp only [semq_bind,semq_underlying hu]
  unfold Instr.slice
  simp only [semq_bind,semq_underlying hu]
  have hsz:s.data.toList.length=s.size:=Array.length_toList
  rw [hsz] at h3 hob
  simp only [Option.isSome_none,Bool.false_eq_true,if_false,semq_bind]
  refine semq_sliceBounds hr h2 h3 hob ?_
  show Value.string _=_
  rw [extract_bs]
theorem gives_slS (hr:Rd a r) {o:Oper} {t e:TypeId} {n:Nat} {x:Operand} {lo hi:Option Operand} (hop:o.op=.slice t x lo hi none) (hu:P.underlying t=some (.slice e)) (hn:szO P e=some n)
    (hq:qev F H r rT rF (.slS n (X.of x) (lo.map X.of) (hi.map X.of))=some (ob,v)) (hob:ob):Gives P F H a o v:=by
  simp only [qev] at hq
  split at hq
  case h_2=>cases hq
  rename_i b off len cap h1
  split at hq
  case h_2=>cases hq
  rename_i l h h2 h3
  simp only [Option.some.injEq,Prod.mk.injEq] at hq
  obtain ⟨rfl,rfl⟩:=hq
  have e1:=hr.ev h1
  refine gives_v (s:=Instr.sliceAt t (a.eval x) (lo.map a.eval) (hi.map a.eval) none) (by unfold execOp;rw [hop];try rfl) ?_
  rw [e1]
  unfold Instr.sliceAt
  simp only [semq_bind,semq_underlying hu]
  unfold Instr.slice
  simp only [semq_bind,semq_underlying hu]
  refine semq_sliceBounds hr h2 h3 ⟨hob.1,hob.2.1,hob.2.2.1⟩ ?_
  simp only [semq_sizeOf hn,semq_pure]
  have e2:(h - l).toNat=h.toNat - l.toNat:=by omega
  rw [e2]
  split
  · rename_i hc
    have:l=0:=hob.2.2.2 hc.symm
    subst this
    simp
  · simp [add_eq]
theorem gives_slA (hr:Rd a r) {o:Oper} {t e:TypeId} {len n:Nat} {x:Operand} {lo hi:Option Operand} (hop:o.op=.slice t x lo hi none) (hu:P.underlying t=some (.array len e)) (hn:szO P e=some n)
    (hq:qev F H r rT rF (.slA len n (X.of x) (lo.map X.of) (hi.map X.of))=some (ob,v)) (hob:ob):Gives P F H a o v:=by
  simp only [qev] at hq
  split at hq
  case h_2=>cases hq
  rename_i b off h1
  split at hq
  case h_2=>cases hq
  rename_i l h h2 h3
  simp only [Option.some.injEq,Prod.mk.injEq] at hq
  obtain ⟨rfl,rfl⟩:=hq
  have e1:=hr.ev h1
  refine gives_v (s:=Instr.sliceAt t (a.eval x) (lo.map a.eval) (hi.map a.eval) none) (by unfold execOp;rw [hop];try rfl) ?_
  rw [e1]
  unfold Instr.sliceAt Instr.sureAddr
  simp only [semq_bind,semq_underlying hu,semq_pure]
  refine semq_sliceBounds hr h2 h3 ⟨hob.1,hob.2.1,hob.2.2.1⟩ ?_
  simp only [semq_sizeOf hn]
  have e2:(h - l).toNat=h.toNat - l.toNat:=by omega
  rw [e2]
  split
  · rename_i hc
    have:l=0:=hob.2.2.2 hc.symm
    subst this
    simp
  · simp [add_eq]
theorem fold_put (off:Nat):∀ (l:List Value) (j:Nat) (cs:List Value),off+j+l.length≤cs.length →
    (l.zipIdx j).foldl (fun cs (x:Value×Nat)=>cs.setIfInBounds (off+x.2) x.1) cs.toArray=(cs.take (off+j)++l++cs.drop (off+j+l.length)).toArray
  | [],j,cs,_=>by simp
  | x :: l,j,cs,h=>by
    simp only [List.length_cons] at h
    simp only [List.zipIdx_cons,List.foldl_cons,List.setIfInBounds_toArray]
    rw [fold_put off l (j+1) (cs.set (off+j) x) (by simp;omega)]
    congr 1
    have hlt:off+j < cs.length:=by omega
    rw [List.take_set,List.drop_set]
    have e1:(cs.take (off+(j+1))).set (off+j) x=cs.take (off+j)++[x]:=by
      rw [show off+(j+1)=(off+j)+1 from by omega,List.take_succ_eq_append_getElem hlt,List.set_append_right _ _ (by simp;omega)]
      simp [Nat.min_eq_left (Nat.le_of_lt hlt)]
    rw [e1,if_pos (by omega)]
    simp [Nat.add_assoc,Nat.add_comm 1]
theorem fill_ok (hr:Rd a r) {pl:Nat→Option (Nat×Nat)}:∀ {ps:List (Nat×Operand)} {l:List (Nat×Nat×X)} {cells:List Value} {p:Prop} {out:List Value},partsO pl ps=some l →
    fillL r cells l=some (p,out)→p→Instr.fill pl cells.toArray (ps.map fun q=>(q.1,a.eval q.2))=some out.toArray
  | [],l,cells,p,out,h,hf,hp=>by
    simp only [partsO,List.mapM_nil,Option.pure_def,Option.some.injEq] at h
    subst h
    simp only [fillL,Option.some.injEq,Prod.mk.injEq] at hf
    obtain ⟨_,rfl⟩:=hf
    rfl
  | (i,x)::ps,l,cells,p,out,h,hf,hp=>by
    simp only [partsO,List.mapM_cons,Option.bind_eq_bind,Option.bind_eq_some_iff,Option.map_eq_some_iff,Option.pure_def,Option.some.injEq] at h
    obtain ⟨q,⟨pp,hpp,rfl⟩,l',hl',rfl⟩:=h
    obtain ⟨off,n⟩:=pp
    simp only [fillL] at hf
    split at hf
    case h_2=>cases hf
    rename_i vv hv
    simp only [Option.map_eq_some_iff,Prod.mk.injEq] at hf
    obtain ⟨⟨p',out'⟩,hf',h1,rfl⟩:=hf
    simp only at h1
    subst h1
    obtain ⟨⟨hs,hle⟩,hp'⟩:=hp
    simp only [List.map_cons,Instr.fill,hpp,hr.ev hv]
    rw [if_neg (by simp [hs];omega)]
    have e:=fold_put off vv.cells.toList 0 cells (by simp [hs];omega)
    simp only [Nat.add_zero] at e
    have e5:vv.cells.zipIdx.foldl (fun cs (x:Value×Nat)=>cs.setIfInBounds (off+x.2) x.1) cells.toArray=(vv.cells.toList.zipIdx 0).foldl (fun cs (x:Value×Nat)=>cs.setIfInBounds (off+x.2) x.1) cells.toArray:=by
      rw [← Array.foldl_toList,Array.toList_zipIdx]
    rw [show (vv.cells.zipIdx.foldl (fun cs (c,j)=>cs.setIfInBounds (off+j) c) cells.toArray)=_ from e5.trans e]
    have e2:off+vv.cells.toList.length=off+n:=by simp [hs]
    rw [e2]
    exact fill_ok hr hl' hf' hp'
theorem gives_build (hr:Rd a r) {o:Oper} {t:TypeId} {ps:Array (Nat×Operand)} (hop:o.op=.build t ps) {pl:Nat→Option (Nat×Nat)} {z:Value} {l:List (Nat×Nat×X)}
    (hpl:placesO P t=some pl) (hz:zeroO P t=some z) (hps:partsO pl ps.toList=some l)
    (hq:qev F H r rT rF (.build z.cells.toList l)=some (ob,v)) (hob:ob):Gives P F H a o v:=by
  simp only [qev,Option.map_eq_some_iff,Prod.mk.injEq] at hq
  obtain ⟨⟨p,out⟩,hf,h1,rfl⟩:=hq
  simp only at h1
  subst h1
  have hfill:=fill_ok hr hps hf hob
  refine gives_v (s:=Instr.build t (ps.map fun (i,x)=>(i,a.eval x))) (by unfold execOp;rw [hop]) ?_
  have e1:(ps.map fun (i,x)=>(i,a.eval x)).toList=ps.toList.map fun q=>(q.1,a.eval q.2):=by simp
  unfold Instr.build
  simp only [semq_bind,semq_zero hz]
  unfold placesO at hpl
  split at hpl
  · rename_i fs hu
    rw [semq_underlying hu]
    split at hpl
    case h_2=>cases hpl
    rename_i pls hm
    simp only [Option.some.injEq] at hpl
    subst hpl
    have key:∀ (l:List Field) (pls:List (Nat×Nat)) (K:List (Nat×Nat)→Prop),l.mapM (fun f=>(szO P f.type).map (fun n=>(f.offset,n)))=some pls→K pls→semq P F H (l.mapM (fun f=>do let n ← sizeOf f.type;pure (f.offset,n))) K:=by
      intro l
      induction l with
      | nil=>intro pls K h hK;simp only [List.mapM_nil,Option.pure_def,Option.some.injEq] at h;subst h;exact hK
      | cons f l ih=>
        intro pls K h hK
        simp only [List.mapM_cons,Option.bind_eq_bind,Option.bind_eq_some_iff,Option.map_eq_some_iff,Option.pure_def,Option.some.injEq] at h
        obtain ⟨q,⟨n,hn,rfl⟩,l',hl',rfl⟩:=h
        simp only [List.mapM_cons,semq_bind,semq_sizeOf hn,semq_pure]
        exact ih l' _ hl' hK
    simp only [semq_bind]
    rw [Array.mapM_eq_mapM_toList,map_eq_pure_bind,semq_bind]
    refine key _ _ _ hm ?_
    simp only [semq_pure,e1]
    have e3:(fun (i:Nat)=>pls.toArray[i]?)=(fun (i:Nat)=>pls[i]?):=by funext i;simp
    rw [e3]
    have e4:z.cells=z.cells.toList.toArray:=by simp
    rw [e4,hfill]
    exact rfl
  · rename_i n e hu
    rw [semq_underlying hu]
    simp only [Option.map_eq_some_iff] at hpl
    obtain ⟨m,hm,rfl⟩:=hpl
    simp only [semq_bind,semq_sizeOf hm,e1]
    have e4:z.cells=z.cells.toList.toArray:=by simp
    rw [e4,hfill]
    exact rfl
  · cases hpl
end
end Go.Eng
namespace Go.Eng
open Go
section
variable {P:Program} {F:Base} {H:Hp} {a:Act} {r rT rF:X→Option Value} {ob:Prop} {v:Value}
theorem semq_pushes:∀ (l:List Value) (u:List UInt8) (s:ByteArray) (K:ByteArray→Prop),u8s l=some u→K ⟨(s.data.toList++u).toArray⟩ →
    semq P F H (forIn l s (fun c s=>do
      let .int .u8 n := c | stuck "bytesToString: byte expected"
      pure (ForInStep.yield (s.push (UInt8.ofNat n.toNat))))) K
  | [],u,s,K,h,hK=>by
    simp only [u8s,Option.some.injEq] at h
    subst h
    simpa [semq_pure] using hK
  | x :: l,u,s,K,h,hK=>by
    unfold u8s at h
    split at h
    · rename_i heq;cases heq
    · rename_i n l' heq
      simp only [List.cons.injEq] at heq
      obtain ⟨rfl,rfl⟩:=heq
      simp only [Option.map_eq_some_iff] at h
      obtain ⟨u',hu,rfl⟩:=h
      simp only [List.forIn_cons,semq_bind,semq_pure]
      refine semq_pushes _ u' _ K hu ?_
      have:(s.push (UInt8.ofNat n.toNat)).data.toList=s.data.toList++[UInt8.ofNat n.toNat]:=by simp
      rw [this];simpa using hK
    · cases h
theorem gives_bstr (hr:Rd a r) {o:Oper} {s d e:TypeId} {x:Operand} (hop:o.op=.convert s d x) (hs:P.underlying s=some (.slice e)) (hd:P.underlying d=some .string) (he:P.underlying e=some (.int .u8))
    (hq:qev F H r rT rF (.bstr (X.of x))=some (ob,v)):Gives P F H a o v:=by
  simp only [qev] at hq
  refine gives_v (s:=convert s d (a.eval x)) (by unfold execOp;rw [hop]) ?_
  split at hq
  · rename_i n c h1
    simp only [Option.some.injEq,Prod.mk.injEq] at hq
    obtain ⟨rfl,rfl⟩:=hq
    rw [hr.ev h1]
    unfold convert
    simp only [semq_bind,semq_underlying hs,semq_underlying hd,semq_underlying he]
    exact rfl
  · rename_i b off n c h1
    split at hq
    case h_2=>cases hq
    rename_i l hl
    split at hq
    case h_2=>cases hq
    rename_i u hu
    simp only [Option.some.injEq,Prod.mk.injEq] at hq
    obtain ⟨rfl,rfl⟩:=hq
    rw [hr.ev h1]
    unfold convert
    simp only [semq_bind,semq_underlying hs,semq_underlying hd,semq_underlying he]
    unfold Conv.bytesToString
    simp only [semq_bind]
    refine semq_loadCells hl ?_
    rw [← Array.forIn_toList]
    refine semq_pushes l u _ _ hu ?_
    exact rfl
  · cases hq
def callable (P:Program) (f:Nat):Bool:=match P.funcs[f]? with
  | some fn => fn.body.isSome && !(fn.name == "runtime.NumGoroutine")
  | none=>false
theorem semq_callFunc {f:Nat} (h:callable P f=true) (args:Array Value) {K:Next→Prop}:semq P F H (callFunc f args) K↔K (.enter f args):=by
  unfold callable at h
  split at h
  · rename_i fn hf
    simp only [Bool.and_eq_true,Bool.not_eq_true'] at h
    unfold callFunc
    simp only [semq_bind,program,semq,hf,h.2]
    have:fn.body.isNone=false:=by cases hb:fn.body <;> simp_all
    simp only [Bool.false_eq_true,if_false,this]
    exact Iff.rfl
  · cases h
theorem sem_callFunc {f:Nat} (h:callable P f=true) (args:Array Value) {K:Next→Hp→Prop} (hK:K (.enter f args) H):sem P F (callFunc f args) H K:=
  sem_mono _ _ _ _ (fun _ _ ⟨h1,h2⟩=>by subst h1;rw [← h2];exact hK) (sem_of_semq _ _ ((semq_callFunc h args).2 rfl))
theorem exec_call {o:Oper} {c:Call} {f:Nat} (hop:o.op=.call c) (hc:c.callee=.value (.func f)):execOp a.eval o=callFunc f (c.args.map a.eval):=by
  unfold execOp
  rw [hop]
  simp only [resolve,hc]
  show invoke (.fn (.func f) #[]) (#[]++c.args.map a.eval)=_
  unfold invoke
  simp
theorem exec_callV {o:Oper} {c:Call} {x:Operand} {f:Nat} {fi ca:Array Value} (hop:o.op=.call c) (hc:c.callee=.value x) (hx:a.eval x=.func (.func f) fi ca) :
    execOp a.eval o=callFunc f (fi++c.args.map a.eval++ca):=by
  unfold execOp
  rw [hop]
  simp only [resolve,hc,hx]
  rfl
theorem semq_row {f : Nat} {fn : Func} {row : Array Value → Sem Value} (hf : P.funcs[f]? = some fn) (h1 : (fn.name == "runtime.NumGoroutine") = false) (h2 : fn.body.isNone = true) (h3 : Extern.findNext fn = none) (h4 : Extern.find fn = some row)
    {args:Array Value} {v:Value} (h:semq P F H (row args) (fun x=>x=v)):semq P F H (callFunc f args) (fun n=>n=.value v):=by
  unfold callFunc
  simp only [semq_bind,program,semq,hf,h1,h2,h3,h4,Bool.false_eq_true,if_false,if_true]
  unfold mark
  simp only [semq]
  exact semq_mono _ _ _ (fun x hx=>by rw [hx];exact rfl) h
def PureF (P:Program) (F:Base) (fv:Value) (args:List Value) (v:Value):Prop:=
  ∃ f fi ca,fv=.func (.func f) fi ca∧callable P f=true∧PureV P F f (fi++args.toArray++ca) v
def CallF (P:Program) (X:List Nat) (F:Base) (w0:World) (fv:Value) (args:List Value) (H:Hp) (K:Value→Hp→Prop):Prop:=
  ∃ f fi ca,fv=.func (.func f) fi ca∧callable P f=true∧CallG P X F w0 f (fi++args.toArray++ca) H K
theorem sem_of_semq' {α:Type} {s:Sem α} {x:α} {K:α→Hp→Prop} (h:semq P F H s (fun y=>y=x)) (hK:K x H):sem P F s H K:=
  sem_mono _ _ _ _ (fun _ _ ⟨h1,h2⟩=>by rw [h1,h2];exact hK) (sem_of_semq _ _ h)
theorem sem_zero {t:TypeId} {z:Value} (h:zeroO P t=some z) {K:Value→Hp→Prop} (hK:K z H):sem P F (zeroValue t) H K:=
  sem_of_semq' ((semq_zero h).2 rfl) hK
theorem sem_newRow {t:TypeId} {cs:Array Value} {K:Addr→Hp→Prop} (h:∀ b,(∀ e∈H,e.1≠b)→F b=none→K ⟨b,0,none⟩ ((b,.cells cs t)::H)):sem P F (newRow t cs) H K:=by
  unfold newRow newObj
  rw [sem_bind]
  exact fun b h1 h2=>h b h1 h2
theorem sem_alloc {o:Oper} {t:TypeId} {z:Value} (hop:o.op=.alloc t) (hz:zeroO P t=some z) {K:Next→Hp→Prop}
    (h:∀ b,(∀ e∈H,e.1≠b)→F b=none→K (.value (.pointer (some ⟨b,0,none⟩))) ((b,.cells z.cells t)::H)):sem P F (execOp a.eval o) H K:=by
  unfold execOp
  rw [hop]
  show sem P F (Instr.alloc t true (.tuple #[]) >>= fun x=>pure (Next.value x)) H K
  rw [sem_bind]
  unfold Instr.alloc
  rw [sem_bind]
  refine sem_zero hz ?_
  show sem P F (newVar t z >>= fun x=>pure (Value.pointer (some x))) H _
  rw [sem_bind]
  unfold newVar
  exact sem_newRow fun b h1 h2=>h b h1 h2
theorem upd_new {H:Hp} {b:Nat} {o:Obj} (h:∀ e∈H,e.1≠b):upd H b o=H:=by
  induction H with
  | nil=>rfl
  | cons x r ih=>
    obtain ⟨b',o'⟩:=x
    have:b'≠b:=h (b',o') (by simp)
    simp only [upd,this,if_false]
    rw [ih fun e he=>h e (by simp [he])]
def byteCells (l:List UInt8):List Value:=l.map fun c=>.int .u8 c.toNat
theorem sem_sbytes {o:Oper} {s d e:TypeId} {x:Operand} {vs:ByteArray} (hop:o.op=.convert s d x) (hs:P.underlying s=some .string) (hd:P.underlying d=some (.slice e)) (he:P.underlying e=some (.int .u8)) (hx:a.eval x=.string vs) {K:Next→Hp→Prop}
    (h:∀ k b,(∀ e∈H,e.1≠b)→F b=none→K (.value (.slice (some ⟨b,0,none⟩) vs.data.toList.length (vs.data.toList.length+k)))
      ((b,.cells (byteCells vs.data.toList++List.replicate k (Value.int .u8 0)).toArray e (vs.data.toList.length+k,vs.data.toList.length+k+1))::H)):sem P F (execOp a.eval o) H K:=by
  have hex:execOp a.eval o=(do let z ← convert s d (a.eval x);pure (Next.value z)):=by unfold execOp;rw [hop]
  have hsz:vs.data.toList.length=vs.size:=Array.length_toList
  rw [hex,sem_bind,hx]
  unfold convert
  rw [sem_bind]
  refine sem_of_semq' ((semq_underlying hs).2 rfl) ?_
  rw [sem_bind]
  refine sem_of_semq' ((semq_underlying hd).2 rfl) ?_
  simp only
  rw [sem_bind]
  refine sem_of_semq' ((semq_underlying he).2 rfl) ?_
  simp only
  unfold Conv.stringToBytes choose
  rw [sem_bind]
  simp only [sem,Question.forced,Bool.false_eq_true,if_false]
  intro t
  simp only [Question.cut]
  generalize t % (2 ^ 63 - vs.size)=k
  rw [sem_bind]
  refine sem_newRow fun b h1 h2=>?_
  rw [sem_bind]
  have hcells:((vs.data.map fun b=>Value.int .u8 b.toNat)++Array.replicate (vs.size+k - vs.size) (Value.int .u8 0))=(byteCells vs.data.toList++List.replicate k (Value.int .u8 0)).toArray:=by
    rw [Nat.add_sub_cancel_left]
    apply Array.ext'
    simp [byteCells]
  rw [hcells]
  have hF:rdObj F ((b,Obj.cells (byteCells vs.data.toList++List.replicate k (Value.int .u8 0)).toArray e)::H) b=some (.cells (byteCells vs.data.toList++List.replicate k (Value.int .u8 0)).toArray e):=by
    simp [rdObj,h2,lk]
  unfold markStringish shape
  rw [sem_bind]
  simp only [sem,hF,shapeOf]
  unfold freeze
  simp only [sem,frH,h2,lk,if_true]
  have hn:(byteCells vs.data.toList++List.replicate k (Value.int .u8 0)).toArray.size=vs.data.toList.length+k:=by simp [byteCells]
  rw [hn]
  simp only [Nat.one_ne_zero,if_false,beq_self_eq_true,if_true,upd,upd_new h1]
  have:=h k b h1 h2
  rw [hsz] at this ⊢
  exact this
theorem sem_box {o:Oper} {t:TypeId} {x:Operand} {vx:Value} (hop:o.op=.box t x) (hx:a.eval x=vx) {K:Next→Hp→Prop}
    (h:∀ b,(∀ e∈H,e.1≠b)→F b=none→K (.value (.pointer (some ⟨b,0,none⟩))) ((b,.cells vx.cells t)::H)):sem P F (execOp a.eval o) H K:=by
  unfold execOp
  rw [hop]
  show sem P F (Instr.box t (a.eval x) >>= fun x=>pure (Next.value x)) H K
  rw [sem_bind,hx]
  unfold Instr.box
  rw [sem_bind]
  unfold newVar
  exact sem_newRow fun b h1 h2=>h b h1 h2
def stCells (F:Base) (H:Hp) (b off:Nat) (l:List Value):Option Hp:=match F b,lk H b with
  | none,some (.cells c e fz)=>if (fz.2≤fz.1&&l.all oneCell&&!l.isEmpty&&decide (off+l.length≤c.size))=true then some (upd H b (.cells (c.toList.take off++l++c.toList.drop (off+l.length)).toArray e fz)) else none
  | _,_=>none
theorem lk_upd {H:Hp} {b:Nat} {o:Obj} (h:lk H b≠none):lk (upd H b o) b=some o:=by
  induction H with
  | nil=>exact absurd rfl h
  | cons x r ih=>
    obtain ⟨b',o'⟩:=x
    simp only [upd]
    split
    · rename_i e;simp [lk,e]
    · rename_i e
      simp only [lk,e,if_false] at h ⊢
      exact ih h
theorem upd_upd (H:Hp) (b:Nat) (o o':Obj):upd (upd H b o) b o'=upd H b o':=by
  induction H with
  | nil=>rfl
  | cons x r ih=>
    obtain ⟨b',o2⟩:=x
    simp only [upd]
    split
    · rename_i e;simp [upd,e,ih]
    · rename_i e;simp [upd,e,ih]
theorem sem_storeCells {b off:Nat} {e:TypeId} {fz:Nat×Nat} (hF:F b=none) (hfz:fz.2≤fz.1):∀ (l:List Value) (i:Nat) (c:List Value) (H:Hp) (K:Unit→Hp→Prop),l≠[]→lk H b=some (.cells c.toArray e fz) →
    (∀ x∈l,oneCell x=true)→off+i+l.length≤c.length→K () (upd H b (.cells (c.take (off+i)++l++c.drop (off+i+l.length)).toArray e fz))→sem P F (storeCells ⟨b,off,none⟩ l i) H K
  | [],_,_,_,_,hne,_,_,_,_=>(hne rfl).elim
  | x :: l,i,c,H,K,_,hlk,hone,hle,hK=>by
    simp only [List.length_cons] at hle
    have hlt:off+i < c.length:=by omega
    unfold storeCells store
    rw [sem_bind,add_eq]
    have hst:stH F H ⟨b,off+i,none⟩ x=some (upd H b (.cells (c.toArray.setIfInBounds (off+i) x) e fz)):=by
      unfold stH
      simp only [hone x (by simp),if_true,hF,hlk,Option.isSome_none,Bool.false_eq_true,if_false,List.size_toArray,hlt]
      rw [if_neg (by simp;omega)]
    simp only [sem,hst]
    have eset:(c.toArray.setIfInBounds (off+i) x)=(c.set (off+i) x).toArray:=by simp
    rw [eset]
    have etake:(c.set (off+i) x).take (off+(i+1))=c.take (off+i)++[x]:=by
      rw [List.take_set,show off+(i+1)=(off+i)+1 from by omega,List.take_succ_eq_append_getElem hlt,List.set_append_right _ _ (by simp;omega)]
      simp [Nat.min_eq_left (Nat.le_of_lt hlt)]
    cases l with
    | nil=>
      unfold storeCells
      show K () _
      have:(c.set (off+i) x)=c.take (off+i)++[x]++c.drop (off+i+1):=by
        have h1:=List.take_append_drop (off+(i+1)) (c.set (off+i) x)
        rw [etake,List.drop_set,if_pos (by omega)] at h1
        rw [← h1]
        simp [Nat.add_assoc]
      rw [this]
      exact hK
    | cons y l=>
      refine sem_storeCells (e:=e) hF hfz (y::l) (i+1) (c.set (off+i) x) _ K (by simp) ?_ (fun z hz=>hone z (by simp at hz ⊢;exact .inr hz)) (by simp at hle ⊢;omega) ?_
      · exact lk_upd (by rw [hlk];simp)
      · rw [upd_upd,etake,List.drop_set,if_pos (by omega)]
        have e1:off+(i+1)+(y::l).length=off+i+(x::y::l).length:=by simp;omega
        rw [e1]
        simpa using hK
theorem sem_store {o:Oper} {t:TypeId} {x y:Operand} {n:Nat} {b off:Nat} {vy:Value} {H':Hp} (hop:o.op=.store t x y) (hn:szO P t=some n) (hx:a.eval x=.pointer (some ⟨b,off,none⟩)) (hy:a.eval y=vy)
    (hs:vy.cells.size=n) (hst:stCells F H b off vy.cells.toList=some H') {K:Next→Hp→Prop} (h:K .skip H'):sem P F (execOp a.eval o) H K:=by
  unfold execOp
  rw [hop]
  show sem P F (Instr.storeAt t (a.eval x) (a.eval y) >>= fun _=>pure Next.skip) H K
  rw [sem_bind,hx,hy]
  unfold Instr.storeAt Instr.sureAddr
  rw [sem_bind]
  show sem P F (storeVar t ⟨b,off,none⟩ vy) H _
  unfold storeVar
  rw [sem_bind]
  refine sem_of_semq' ((semq_sizeOf hn).2 rfl) ?_
  rw [if_neg (by simp [hs])]
  unfold stCells at hst
  split at hst
  · rename_i c e fz hF hl
    split at hst
    · rename_i hc
      simp only [Bool.and_eq_true,decide_eq_true_eq,List.all_eq_true,Bool.not_eq_true',List.isEmpty_eq_false_iff] at hc
      simp only [Option.some.injEq] at hst
      subst hst
      have e4:c=c.toList.toArray:=by simp
      rw [e4] at hl
      refine sem_storeCells hF hc.1.1.1 _ 0 c.toList H _ hc.1.2 hl hc.1.1.2 (by simpa using hc.2) ?_
      exact h
    · cases hst
  · cases hst
theorem sem_bslice (hr : Rd a r) {o : Oper} {t e:TypeId} {len n:Nat} {ps:Array (Nat×Operand)} {z:Value} {l:List (Nat×Nat×X)} {ob:Prop} {out:List Value} (hop:o.op=.buildSlice t len ps)
    (hu:P.underlying t=some (.slice e)) (hn:szO P e=some n) (hz:zeroO P e=some z) (h0:n≠0) (h1:len≠0) (h2:len * n≤1000) (hps:partsO (fun i=>some (i * n,n)) ps.toList=some l)
    (hf:fillL r ((List.range (len * n)).map (fun i=>z.cells[i % z.cells.size]!)) l=some (ob,out)) (hob:ob) {K:Next→Hp→Prop}
    (h:∀ b,(∀ e∈H,e.1≠b)→F b=none→K (.value (.slice (some ⟨b,0,none⟩) len len)) ((b,.cells out.toArray e)::H)):sem P F (execOp a.eval o) H K:=by
  have hfill:=fill_ok hr hps hf hob
  have he:execOp a.eval o=(do let x ← Instr.buildSlice t len (ps.map fun (i,x)=>(i,a.eval x));pure (Next.value x)):=by unfold execOp;rw [hop]
  rw [he]
  have e1:(ps.map fun (i,x)=>(i,a.eval x)).toList=ps.toList.map fun q=>(q.1,a.eval q.2):=by simp
  rw [sem_bind]
  unfold Instr.buildSlice
  rw [sem_bind]
  refine sem_of_semq' ((semq_underlying hu).2 rfl) ?_
  simp only
  rw [sem_bind]
  refine sem_of_semq' ((semq_sizeOf hn).2 rfl) ?_
  have hlt : ¬ len * n > 2 ^ 24 := by have:(2:Nat) ^ 24=16777216:=by decide
                                      omega
  have hne:¬ len * n=0:=Nat.mul_ne_zero h1 h0
  simp only [hlt,hne,if_false]
  rw [sem_bind]
  refine sem_zero hz ?_
  have e5:(Array.range (len * n)).map (z.cells[· % z.cells.size]!)=((List.range (len * n)).map (fun i=>z.cells[i % z.cells.size]!)).toArray:=by
    apply Array.ext';simp
  simp only [pure_bind,e5,e1,hfill]
  rw [sem_bind]
  exact sem_newRow fun b h1 h2=>h b h1 h2
def orZ (m:Nat):Option (Nat×List Value)→Option (Nat×List Value)
  | some x=>some x
  | none=>if m=0 then some (0,[]) else none
def rowsOf (F:Base) (H:Hp) (n:Nat):Value→Option (Nat×List Value)
  | .slice none 0 _=>some (0,[])
  | .slice (some ⟨b,off,none⟩) m _=>orZ m ((cellsAt F H b off (m * n)).map fun l=>(m,l))
  | .slice (some ⟨_,_,some _⟩) 0 _=>some (0,[])
  | .string s=>if n=1 then some (s.data.toList.length,byteCells s.data.toList) else none
  | _=>none
def oldOf (F:Base) (H:Hp) (n:Nat) (base:Option Addr) (len:Nat):Option (List Value):=match base with
  | none=>some []
  | some ⟨b,off,none⟩=>cellsAt F H b off (len * n)
  | _=>none
def appIn (F:Base) (H:Hp) (n:Nat) (base:Option Addr) (len cap m:Nat) (nw:List Value) (K:Value→Hp→Prop):Prop:=match nw with
  | []=>K (.slice base (len+m) cap) H
  | _ :: _=>match base with
    | some ⟨b,off,none⟩=>match stCells F H b (off+len * n) nw with
      | some H'=>K (.slice base (len+m) cap) H'
      | none=>False
    | _=>False
def appNew (F:Base) (H:Hp) (n T:Nat) (base:Option Addr) (len m:Nat) (nw:List Value) (K:Value→Hp→Prop):Prop:=match oldOf F H n base len with
  | some old=>∀ k sp,sp.length=k * n→len+m+k≤9223372036854775807→∀ b,(∀ e∈H,e.1≠b)→F b=none→K (.slice (some ⟨b,0,none⟩) (len+m) (len+m+k)) ((b,.cells (old++nw++sp).toArray T)::H)
  | none=>False
def appP (F:Base) (H:Hp) (n B T:Nat) (x y:Value) (K:Value→Hp→Prop):Prop:=match x,rowsOf F H n y with
  | .slice base len cap,some (m,nw)=>(len+m≤cap→appIn F H n base len cap m nw K)∧(cap < len+m→(2 * (len+m)+192) * B≤281474976710656∧appNew F H n T base len m nw K)
  | _,_=>False
def mkSlP (F:Base) (H:Hp) (n B T:Nat) (z:List Value) (x y:Value) (K:Value→Hp→Prop):Prop:=match x,y with
  | .int .i64 l,.int .i64 c=>(0≤l∧l≤c∧c * B≤281474976710656∧c≤9223372036854775807)∧∀ b,(∀ e∈H,e.1≠b)→F b=none →
      K (.slice (some ⟨b,0,none⟩) l.toNat c.toNat) ((b,.cells ((List.range (c.toNat * n)).map fun i=>z[i % z.length]!).toArray T)::H)
  | _,_=>False
def mapEs (F:Base) (H:Hp):Value→Option (List MapEntry)
  | .map none=>some []
  | .map (some r)=>match rdObj F H r with
    | some (.map es _)=>some es.toList
    | _=>none
  | _=>none
def getV (z:Value) (ok:Bool):Option (Nat×Value)→Value
  | some (_,v)=>if ok then .tuple #[v,.bool true] else v
  | none=>if ok then .tuple #[z,.bool false] else z
def setP (F:Base) (H:Hp) (d:TypeDesc) (m k v:Value) (K:Value→Hp→Prop):Prop:=match m with
  | .map (some r)=>match F r,lk H r with
    | none,some (.map es c)=>match Instr.findNow d k es.toList 0 with
      | some none=>K undef (upd H r (.map (es.push { key:=k,val:=v,born:=c }) (c+1)))
      | some (some (i,_))=>Instr.sameBits 10000 (((es[i]?).map (·.key)).getD k) k=true∧K undef (upd H r (.map (es.modify i fun e=>{ e with key:=k,val:=v }) c))
      | none=>False
    | _,_=>False
  | _=>False
def efP (F:Base) (H:Hp):Ef→List Value→(Value→Hp→Prop)→Prop
  | .mkMap,[],K=>∀ b,(∀ e∈H,e.1≠b)→F b=none→K (.map (some b)) ((b,.map #[] 0)::H)
  | .mapGet d z ok,[m,k],K=>match mapEs F H m with
    | some es=>match Instr.findNow d k es 0 with
      | some r=>K (getV z ok r) H
      | none=>False
    | none=>False
  | .mapSet d,[m,k,v],K=>setP F H d m k v K
  | .mapLen,[m],K=>match mapEs F H m with
    | some es=>K (.int .i64 es.length) H
    | none=>False
  | .app n B T,[x,y],K=>appP F H n B T x y K
  | .mkSl n B T z,[x,y],K=>mkSlP F H n B T z x y K
  | _,_,_=>False
def valK (K:Value→Hp→Prop):Next→Hp→Prop
  | .value v,H=>K v H
  | .skip,H=>K undef H
  | _,_=>False
def shrK (K:Value→Hp→Prop) (v:Value) (H:Hp):Prop:=∃ Hc,(∀ e∈Hc,e∈H)∧K v Hc
theorem growBy_le (N:Nat):∀ (r c:Nat),c≤2 * N+192→Builtin.growBy N r c≤2 * N+192
  | 0,c,h=>h
  | r+1,c,h=>by
    unfold Builtin.growBy
    split
    · exact h
    · exact growBy_le N r _ (by omega)
theorem nextcap_le {N c:Nat} (h:c < N):Builtin.nextslicecap N c≤2 * N+192:=by
  unfold Builtin.nextslicecap
  split
  · omega
  · split
    · omega
    · exact growBy_le N 4 c (by omega)
theorem sem_sizeOf {t n:Nat} (h:szO P t=some n) {K:Nat→Hp→Prop} (hK:K n H):sem P F (sizeOf t) H K:=sem_of_semq' ((semq_sizeOf h).2 rfl) hK
theorem sem_underlying {t:Nat} {d:TypeDesc} (h:P.underlying t=some d) {K:TypeDesc→Hp→Prop} (hK:K d H):sem P F (underlying t) H K:=sem_of_semq' ((semq_underlying h).2 rfl) hK
theorem sem_typeInfo {t:Nat} {d:TypeInfo} (h:P.info? t=some d) {K:TypeInfo→Hp→Prop} (hK:K d H):sem P F (typeInfo t) H K:=sem_of_semq' ((semq_typeInfo h).2 rfl) hK
theorem sem_askRoom {n:Nat} {K:Unit→Hp→Prop} (hK:K () H):sem P F (askRoom n) H K:=by
  unfold askRoom;split
  · exact hK
  · exact hK
theorem sem_loadCells {b off n:Nat} {l:List Value} (h:cellsAt F H b off n=some l) {K:Array Value→Hp→Prop} (hK:K l.toArray H):sem P F (loadCells ⟨b,off,none⟩ n) H K:=
  sem_of_semq' (semq_loadCells h rfl) hK
theorem byteCells_arr (s:ByteArray):((s.extract 0 s.data.toList.length).data.map fun b=>Value.int .u8 b.toNat)=(byteCells s.data.toList).toArray:=by
  rw [extract_bs]
  apply Array.ext'
  have h:s.size=(s.data.toList.map fun b=>Value.int .u8 b.toNat).length:=by rw [List.length_map];exact (Array.length_toList (xs:=s.data)).symm
  simp only [bs,byteCells,Array.toList_map,List.drop_zero,Array.length_toList,List.map_take]
  exact List.take_of_length_le (by simp)
theorem sem_pure_eq {α:Type} {x y:α} (h:x=y) {K:α→Hp→Prop} (hK:K y H):sem P F (pure x:Sem α) H K:=h ▸ hK
theorem sem_rows {n m:Nat} {y:Value} {nw:List Value} (h:rowsOf F H n y=some (m,nw)) {K:Array Value→Hp→Prop} (hK:K nw.toArray H):sem P F (Builtin.firstCells n m y) H K:=by
  unfold rowsOf at h
  split at h
  · simp only [Option.some.injEq,Prod.mk.injEq] at h
    obtain ⟨rfl,rfl⟩:=h
    exact hK
  · rename_i b off m' c
    cases hc:cellsAt F H b off (m' * n) with
    | some l=>
      simp only [hc,Option.map_some,orZ,Option.some.injEq,Prod.mk.injEq] at h
      obtain ⟨rfl,rfl⟩:=h
      exact sem_loadCells hc hK
    | none=>
      simp only [hc,Option.map_none,orZ] at h
      split at h
      · rename_i h0
        simp only [Option.some.injEq,Prod.mk.injEq] at h
        obtain ⟨rfl,rfl⟩:=h
        unfold Builtin.firstCells
        simp only [Nat.zero_mul]
        exact hK
      · cases h
  · simp only [Option.some.injEq,Prod.mk.injEq] at h
    obtain ⟨rfl,rfl⟩:=h
    unfold Builtin.firstCells
    simp only [Nat.zero_mul]
    exact hK
  · split at h
    · simp only [Option.some.injEq,Prod.mk.injEq] at h
      obtain ⟨rfl,rfl⟩:=h
      unfold Builtin.firstCells
      exact sem_pure_eq (byteCells_arr _) hK
    · cases h
  · cases h
theorem sem_lenOf {n m:Nat} {y:Value} {nw:List Value} (h:rowsOf F H n y=some (m,nw)) {K:Nat→Hp→Prop} (hK:K m H):sem P F (Builtin.lenOf y) H K:=by
  unfold rowsOf at h
  split at h
  · simp only [Option.some.injEq,Prod.mk.injEq] at h
    obtain ⟨rfl,rfl⟩:=h
    exact hK
  · rename_i b off m' c
    cases hc:cellsAt F H b off (m' * n) with
    | some l=>
      simp only [hc,Option.map_some,orZ,Option.some.injEq,Prod.mk.injEq] at h
      obtain ⟨rfl,rfl⟩:=h
      exact hK
    | none=>
      simp only [hc,Option.map_none,orZ] at h
      split at h
      · rename_i h0
        simp only [Option.some.injEq,Prod.mk.injEq] at h
        obtain ⟨rfl,rfl⟩:=h
        subst h0
        exact hK
      · cases h
  · simp only [Option.some.injEq,Prod.mk.injEq] at h
    obtain ⟨rfl,rfl⟩:=h
    exact hK
  · split at h
    · simp only [Option.some.injEq,Prod.mk.injEq] at h
      obtain ⟨rfl,rfl⟩:=h
      have hsz:∀ s:ByteArray,s.data.toList.length=s.size:=fun s=>Array.length_toList
      unfold Builtin.lenOf
      rw [hsz] at hK;exact hK
    · cases h
  · cases h
theorem sem_old {n len cap:Nat} {base:Option Addr} {old:List Value} (h:oldOf F H n base len=some old) {K:Array Value→Hp→Prop} (hK:K old.toArray H):sem P F (Builtin.firstCells n len (.slice base len cap)) H K:=by
  unfold oldOf at h
  split at h
  · simp only [Option.some.injEq] at h;subst h;exact hK
  · exact sem_loadCells h hK
  · cases h
theorem sem_stCells {b off:Nat} {l:List Value} {H':Hp} (hne:l≠[]) (hst:stCells F H b off l=some H') {K:Unit→Hp→Prop} (h:K () H'):sem P F (storeCells ⟨b,off,none⟩ l) H K:=by
  unfold stCells at hst
  split at hst
  · rename_i c e fz hF hl
    split at hst
    · rename_i hc
      simp only [Bool.and_eq_true,decide_eq_true_eq,List.all_eq_true,Bool.not_eq_true',List.isEmpty_eq_false_iff] at hc
      simp only [Option.some.injEq] at hst
      subst hst
      have e4:c=c.toList.toArray:=by simp
      rw [e4] at hl
      refine sem_storeCells hF hc.1.1.1 _ 0 c.toList H _ hne hl hc.1.1.2 (by simpa using hc.2) ?_
      exact h
    · cases hst
  · cases hst
theorem sem_asInt {k:IntKind} {n:Int} {K:Int→Hp→Prop} (hK:K n H):sem P F (asInt (.int k n)) H K:=hK
theorem sem_append {t t2 T n B:Nat} {d:TypeDesc} {i:TypeInfo} {z:Value} {ot:Nat} {x y:Value} (hu:P.underlying t=some (.slice T)) (hd:P.underlying t2=some d) (hdi:intD d=false) (hi:P.info? T=some i) (hz:i.zero=some z)
    (hn:i.size=n) (hB:i.bytes=B) (hzs:z.cells.size=n) (hB0:B≠0) {K:Value→Hp→Prop} (h:appP F H n B T x y K):sem P F (Builtin.append_ #[t,t2] ot #[x,y]) H K:=by
  unfold appP at h
  split at h
  case h_2=>exact h.elim
  rename_i base len cap m nw hr
  obtain ⟨h1,h2⟩:=h
  have hso:szO P T=some n:=by unfold szO;rw [hi];exact congrArg some hn
  have hzo:zeroO P T=some z:=by unfold zeroO;rw [hi];exact hz
  unfold Builtin.append_
  simp only [List.getElem?_toArray,List.getElem?_cons_zero,List.getElem?_cons_succ]
  rw [sem_bind]
  refine sem_underlying hu ?_
  simp only
  rw [sem_bind]
  refine sem_sizeOf hso ?_
  rw [sem_bind]
  refine sem_underlying hd ?_
  rw [sem_bind]
  refine sem_pure_eq (y:=false) (by cases d <;> first | rfl | (simp [intD] at hdi)) ?_
  show sem P F (Builtin.lenOf y >>= _) H _
  rw [sem_bind]
  refine sem_lenOf hr ?_
  simp only [Bool.not_false,if_true]
  split
  · rename_i hle
    have h1:=h1 hle
    rw [sem_bind]
    refine sem_rows hr ?_
    unfold appIn at h1
    cases nw with
    | nil=>
      simp only at h1
      cases base with
      | none=>exact h1
      | some a=>exact h1
    | cons v nw=>
      simp only at h1
      split at h1
      · split at h1
        · rename_i H' hst
          rw [sem_bind,add_eq]
          exact sem_stCells (by simp) hst h1
        · exact h1.elim
      · exact h1.elim
  · rename_i hgt
    obtain ⟨hb,h2⟩:=h2 (by omega)
    have hbi:i.bytes≠0:=hB ▸ hB0
    rw [sem_bind]
    refine sem_typeInfo hi ?_
    rw [if_neg (fun hh => by rcases hh.2 with h | h;· cases h
                             · exact hbi h)]
    rw [sem_bind]
    refine sem_typeInfo hi ?_
    have hnc:Builtin.nextslicecap (len+m) cap≤2 * (len+m)+192:=nextcap_le (by omega)
    have e48:(2:Nat) ^ 48=281474976710656:=by decide
    have hmul:Builtin.nextslicecap (len+m) cap * i.bytes≤(2 * (len+m)+192) * B:=by rw [hB];exact Nat.mul_le_mul_right _ hnc
    rw [if_neg (by rw [e48];omega)]
    unfold appNew at h2
    split at h2
    case h_2=>exact h2.elim
    rename_i old hold
    rw [sem_bind]
    unfold choose
    simp only [sem,Question.forced,Bool.false_eq_true,if_false]
    intro tt
    simp only [Question.cut]
    have hkm:len+m+tt % (2 ^ 63 - (len+m))≤9223372036854775807:=by
      have h1:len+m≤281474976710656:=by
        have:1 * (len+m)≤B * (2 * (len+m)+192):=Nat.mul_le_mul (by omega) (by omega)
        rw [Nat.mul_comm] at hb;omega
      have e63:(2:Nat) ^ 63=9223372036854775808:=by decide
      have:=Nat.mod_lt tt (y:=2 ^ 63 - (len+m)) (by rw [e63];omega)
      rw [e63] at this ⊢;omega
    revert hkm
    generalize tt % (2 ^ 63 - (len+m))=k
    intro hkm
    rw [sem_bind]
    refine sem_typeInfo hi ?_
    rw [sem_bind]
    refine sem_askRoom ?_
    rw [sem_bind]
    refine sem_old hold ?_
    rw [sem_bind]
    refine sem_rows hr ?_
    rw [sem_bind]
    refine sem_zero hzo ?_
    rw [sem_bind,Nat.add_sub_cancel_left]
    have e5:(old.toArray++nw.toArray++Builtin.zeroCells z.cells k)=(old++nw++(Builtin.zeroCells z.cells k).toList).toArray:=by
      apply Array.ext';simp
    rw [e5]
    exact sem_newRow fun b hb1 hb2=>h2 k _ (by simp [Builtin.zeroCells,hzs]) hkm b hb1 hb2
theorem appT_spec {c:Call} {n B T:Nat} (h:appT P c=some (n,B,T)):∃ x y t t2 d i z,c.args=#[x,y]∧c.argTypes=#[t,t2]∧P.underlying t=some (.slice T)∧P.underlying t2=some d∧intD d=false∧P.info? T=some i∧i.zero=some z ∧
    i.size=n∧i.bytes=B∧z.cells.size=n∧B≠0:=by
  unfold appT at h
  split at h
  case h_2=>cases h
  rename_i x y t t2 hx ht
  split at h
  case h_2=>cases h
  rename_i e d hu hd
  split at h
  case h_2=>cases h
  rename_i i hi
  split at h
  case h_2=>cases h
  rename_i z hz
  split at h
  · cases h
  · rename_i hc
    simp only [Bool.or_eq_true,beq_iff_eq,bne_iff_ne,not_or,Bool.not_eq_true,ne_eq,Decidable.not_not] at hc
    simp only [Option.some.injEq,Prod.mk.injEq] at h
    obtain ⟨rfl,rfl,rfl⟩:=h
    exact ⟨x,y,t,t2,d,i,z,by rw [← Array.toArray_toList (xs:=c.args),hx],by rw [← Array.toArray_toList (xs:=c.argTypes),ht],hu,hd,hc.2,hi,hz,rfl,rfl,hc.1.2,hc.1.1.2⟩
theorem mkT_spec {t n B T:Nat} {z:List Value} (h:mkT P t=some (n,B,T,z)):∃ i zv,P.underlying t=some (.slice T)∧P.info? T=some i∧i.zero=some zv∧i.size=n∧i.bytes=B∧zv.cells.toList=z:=by
  unfold mkT at h
  split at h
  case h_2=>cases h
  rename_i e hu
  split at h
  case h_2=>cases h
  rename_i i hi
  split at h
  case h_2=>cases h
  rename_i zv hz
  split at h
  · cases h
  · simp only [Option.some.injEq,Prod.mk.injEq] at h
    obtain ⟨rfl,rfl,rfl,rfl⟩:=h
    exact ⟨i,zv,hu,hi,hz,rfl,rfl,rfl⟩
theorem sem_mkSl {t T n B:Nat} {i:TypeInfo} {z:Value} {x y:Value} (hu:P.underlying t=some (.slice T)) (hi:P.info? T=some i) (hz:i.zero=some z)
    (hn:i.size=n) (hB:i.bytes=B) {K:Value→Hp→Prop} (h:mkSlP F H n B T z.cells.toList x y K):sem P F (Instr.makeSlice t x y) H K:=by
  unfold mkSlP at h
  split at h
  case h_2=>exact h.elim
  rename_i l c
  obtain ⟨⟨h1,h2,h3,h4⟩,h⟩:=h
  have hso:szO P T=some n:=by unfold szO;rw [hi];exact congrArg some hn
  have hzo:zeroO P T=some z:=by unfold zeroO;rw [hi];exact hz
  have w:∀ x:Int,0≤x∧x≤9223372036854775807→IntKind.i64.wrap x=x:=fun x hx=>by
    unfold IntKind.wrap
    have e1:(2:Int) ^ 64=18446744073709551616:=by decide
    have e2:(2:Int) ^ (64 - 1)=9223372036854775808:=by decide
    simp only [IntKind.bits,IntKind.signed,Bool.true_and]
    split <;> rename_i h <;> simp only [ge_iff_le,decide_eq_true_eq,e1,e2] at h ⊢ <;> omega
  unfold Instr.makeSlice
  rw [sem_bind]
  refine sem_underlying hu ?_
  simp only
  rw [sem_bind]
  refine sem_asInt ?_
  rw [sem_bind]
  refine sem_asInt ?_
  rw [sem_bind]
  refine sem_typeInfo hi ?_
  rw [w l ⟨h1,by omega⟩,w c ⟨by omega,h4⟩]
  have e48:(2:Int) ^ 48=281474976710656:=by decide
  have hcB:(i.bytes:Int) * c≤281474976710656:=by rw [hB,Int.mul_comm];exact h3
  rw [if_neg (by simp only [e48,Bool.or_eq_true,decide_eq_true_eq];omega)]
  rw [sem_bind]
  refine sem_askRoom ?_
  rw [sem_bind]
  refine sem_sizeOf hso ?_
  split
  · rename_i h0
    rw [sem_bind]
    refine sem_pure_eq rfl ?_
    rw [sem_bind]
    have e5:(Array.range (c.toNat * n)).map (fun x=>(#[]:Array Value)[x % (#[]:Array Value).size]!)=((List.range (c.toNat * n)).map fun i=>z.cells.toList[i % z.cells.toList.length]!).toArray:=by
      rw [h0];simp
    rw [e5]
    exact sem_newRow fun b hb1 hb2=>h b hb1 hb2
  · rw [sem_bind]
    refine sem_zero hzo ?_
    rw [sem_bind]
    refine sem_pure_eq rfl ?_
    rw [sem_bind]
    have e5:(Array.range (c.toNat * n)).map (fun x=>z.cells[x % z.cells.size]!)=((List.range (c.toNat * n)).map fun i=>z.cells.toList[i % z.cells.toList.length]!).toArray:=by
      apply Array.ext';simp [Array.getElem!_eq_getD,Array.getD_eq_getD_getElem?]
    rw [e5]
    exact sem_newRow fun b hb1 hb2=>h b hb1 hb2
theorem sem_checkKey {key:Nat} {d:TypeDesc} (hk:P.underlying key=some d) (hd:keyD d=true) {b:Bool} {v:Value} {K:Unit→Hp→Prop} (hK:K () H):sem P F (Instr.checkKey b 10000 key v) H K:=by
  show sem P F (Instr.checkKey b (9999+1) key v) H K
  unfold Instr.checkKey
  rw [sem_bind]
  refine sem_underlying hk ?_
  cases d <;> first | (simp [keyD] at hd;done) | exact hK
theorem sem_findKey {key:Nat} {d:TypeDesc} (hk:P.underlying key=some d) {k:Value} {es:List MapEntry} {r:Option (Nat×Value)} (hf:Instr.findNow d k es 0=some r) {K:Option (Nat×Value)→Hp→Prop} (hK:K r H):sem P F (Instr.findKey key k es) H K:=by
  unfold Instr.findKey
  rw [sem_bind]
  refine sem_underlying hk ?_
  rw [hf]
  exact hK
theorem sem_lookup {t key elem:Nat} {d:TypeDesc} {z m k:Value} {ok:Bool} {es:List MapEntry} {r:Option (Nat×Value)} (hu:P.underlying t=some (.map key elem)) (hk:P.underlying key=some d) (hd:keyD d=true) (hz:zeroO P elem=some z)
    (hm:mapEs F H m=some es) (hf:Instr.findNow d k es 0=some r) {K:Value→Hp→Prop} (hK:K (getV z ok r) H):sem P F (Instr.lookup t m k ok) H K:=by
  unfold Instr.lookup
  rw [sem_bind]
  refine sem_underlying hu ?_
  simp only
  have rest:∀ a:Array MapEntry,a.toList=es→sem P F (do
      Instr.checkKey a.isEmpty 10000 key k
      let l ← Instr.findKey key k a.toList
      match l with
      | some (_,v)=>do
        let x ← pure (v,true)
        pure (if ok=true then .tuple #[x.1,.bool x.2] else x.1)
      | none=>do
        let z ← zeroValue elem
        let x ← pure (z,false)
        pure (if ok=true then .tuple #[x.1,.bool x.2] else x.1):Sem Value) H K:=fun a ha=>by
    rw [sem_bind]
    refine sem_checkKey hk hd ?_
    rw [sem_bind,ha]
    refine sem_findKey hk hf ?_
    cases r with
    | none=>
      simp only
      rw [sem_bind]
      refine sem_zero hz ?_
      cases ok <;> exact hK
    | some p=>
      obtain ⟨i,v⟩:=p
      cases ok <;> exact hK
  unfold mapEs at hm
  split at hm
  · simp only [Option.some.injEq] at hm
    exact rest #[] (by simpa using hm)
  · rename_i rr
    split at hm
    · rename_i es' c ho
      simp only [Option.some.injEq] at hm
      simp only
      rw [sem_bind]
      unfold getObj
      simp only [sem,ho]
      exact rest es' hm
    · cases hm
  · cases hm
theorem sem_mapSet {t key elem:Nat} {d:TypeDesc} {m k v:Value} (hu:P.underlying t=some (.map key elem)) (hk:P.underlying key=some d) (hd:keyD d=true) {K:Value→Hp→Prop} (h:setP F H d m k v K) :
    sem P F (Instr.mapUpdate t m k v) H fun _ H'=>K undef H':=by
  unfold setP at h
  split at h
  case h_2=>exact h.elim
  rename_i r
  split at h
  case h_2=>exact h.elim
  rename_i es c hF hl
  unfold Instr.mapUpdate
  rw [sem_bind]
  refine sem_underlying hu ?_
  simp only
  rw [sem_bind]
  have ho:rdObj F H r=some (.map es c):=by unfold rdObj;rw [hF];exact hl
  show sem P F (getObj r) H _
  unfold getObj
  simp only [sem,ho]
  rw [sem_bind]
  refine sem_checkKey hk hd ?_
  rw [sem_bind]
  split at h
  · rename_i hf
    refine sem_findKey hk hf ?_
    simp only
    unfold setObj
    simp only [sem,soH,hF,hl]
    exact h
  · rename_i i x hf
    obtain ⟨h1,h2⟩:=h
    refine sem_findKey hk hf ?_
    simp only
    rw [sem_bind]
    unfold Instr.keyThatStays
    rw [if_pos h1]
    refine sem_pure_eq rfl ?_
    unfold setObj
    simp only [sem,soH,hF,hl]
    exact h2
  · exact h.elim
theorem sem_mapLen {t key elem T:Nat} {m:Value} {es:List MapEntry} (hu:P.underlying t=some (.map key elem)) (hm:mapEs F H m=some es) {K:Value→Hp→Prop} (hK:K (.int .i64 es.length) H):sem P F (Builtin.len_ #[t] T #[m]) H K:=by
  unfold Builtin.len_
  simp only [List.getElem?_toArray,List.getElem?_cons_zero]
  rw [sem_bind]
  refine sem_underlying hu ?_
  unfold mapEs at hm
  split at hm
  · simp only [Option.some.injEq] at hm
    subst hm
    exact hK
  · rename_i rr
    split at hm
    · rename_i es' c ho
      simp only [Option.some.injEq] at hm
      subst hm
      simp only
      rw [sem_bind]
      unfold getObj
      simp only [sem,ho]
      show K (.int .i64 (es'.size:Nat)) H
      simpa using hK
    · cases hm
  · cases hm
inductive IsEf (P:Program) (o:Oper):Ef→List X→Prop
  | app (c:Call) (n B T:Nat) (hop:o.op=.call c) (hc:c.callee=.builtin .append) (h:appT P c=some (n,B,T)):IsEf P o (.app n B T) (c.args.toList.map X.of)
  | mkSl (t:Nat) (l c:Operand) (n B T:Nat) (z:List Value) (hop:o.op=.makeSlice t l c) (h:mkT P t=some (n,B,T,z)):IsEf P o (.mkSl n B T z) [X.of l,X.of c]
  | mkMap (t:Nat) (hop:o.op=.makeMap t none):IsEf P o .mkMap []
  | mapGet (t:Nat) (m k:Operand) (ok:Bool) (key elem:Nat) (d:TypeDesc) (z:Value) (hop:o.op=.lookup t m k ok) (hu:P.underlying t=some (.map key elem)) (hk:P.underlying key=some d) (hd:keyD d=true) (hz:zeroO P elem=some z):IsEf P o (.mapGet d z ok) [X.of m,X.of k]
  | mapSet (t:Nat) (m k v:Operand) (key elem:Nat) (d:TypeDesc) (hop:o.op=.mapUpdate t m k v) (hu:P.underlying t=some (.map key elem)) (hk:P.underlying key=some d) (hd:keyD d=true):IsEf P o (.mapSet d) [X.of m,X.of k,X.of v]
  | mapLen (c:Call) (x:Operand) (t key elem:Nat) (hop:o.op=.call c) (hc:c.callee=.builtin .len) (ha:c.args.toList=[x]) (htt:c.argTypes.toList=[t]) (hu:P.underlying t=some (.map key elem)):IsEf P o .mapLen [X.of x]
  | mapIns (t:Nat) (m k v:Operand) (key elem:Nat) (d:TypeDesc) (hop:o.op=.insert t m k v) (hu:P.underlying t=some (.map key elem)) (hk:P.underlying key=some d) (hd:keyD d=true):IsEf P o (.mapSet d) [X.of m,X.of k,X.of v]
theorem sem_ef {o:Oper} {e:Ef} {xs:List X} {vs:List Value} (h:IsEf P o e xs) (hv:xs.map (xv a)=vs) {K:Value→Hp→Prop} (hK:efP F H e vs K):sem P F (execOp a.eval o) H (valK K):=by
  subst hv
  have wrapV:∀ s:Sem Value,sem P F s H K→sem P F (s >>= fun x=>pure (Next.value x)) H (valK K):=fun s hs=>by
    rw [sem_bind];exact hs
  cases h with
  | app c n B T hop hc h=>
    obtain ⟨x,y,t,t2,d,i,z,e1,e2,hu,hd,hdi,hi,hz,hn,hB,hzs,hB0⟩:=appT_spec h
    have he:execOp a.eval o=(Builtin.append_ #[t,t2] o.type #[a.eval x,a.eval y] >>= fun x=>pure (Next.value x)):=by
      unfold execOp;rw [hop];simp only [resolve,hc,e1,e2,List.map_toArray,List.map_cons,List.map_nil];rfl
    rw [he]
    rw [e1] at hK
    simp only [List.map_cons,List.map_nil,xv_of] at hK
    exact wrapV _ (sem_append hu hd hdi hi hz hn hB hzs hB0 hK)
  | mkSl t l c n B T z hop h=>
    obtain ⟨i,zv,hu,hi,hz,hn,hB,rfl⟩:=mkT_spec h
    have he:execOp a.eval o=(Instr.makeSlice t (a.eval l) (a.eval c) >>= fun x=>pure (Next.value x)):=by
      unfold execOp;rw [hop]
    rw [he]
    simp only [List.map_cons,List.map_nil,xv_of] at hK
    exact wrapV _ (sem_mkSl hu hi hz hn hB hK)
  | mkMap t hop=>
    have he:execOp a.eval o=(Instr.makeMap t none >>= fun x=>pure (Next.value x)):=by
      unfold execOp;rw [hop];rfl
    rw [he]
    refine wrapV _ ?_
    unfold Instr.makeMap
    simp only
    rw [sem_bind]
    unfold newObj
    simp only [sem]
    exact hK
  | mapGet t m k ok key elem d z hop hu hk hd hz=>
    have he:execOp a.eval o=(Instr.lookup t (a.eval m) (a.eval k) ok >>= fun x=>pure (Next.value x)):=by
      unfold execOp;rw [hop]
    rw [he]
    simp only [List.map_cons,List.map_nil,xv_of] at hK
    simp only [efP] at hK
    split at hK
    case h_2=>exact hK.elim
    rename_i es hm
    split at hK
    case h_2=>exact hK.elim
    rename_i r hf
    exact wrapV _ (sem_lookup hu hk hd hz hm hf hK)
  | mapSet t m k v key elem d hop hu hk hd=>
    have he:execOp a.eval o=(Instr.mapUpdate t (a.eval m) (a.eval k) (a.eval v) >>= fun _=>pure Next.skip):=by
      unfold execOp;rw [hop]
    rw [he]
    simp only [List.map_cons,List.map_nil,xv_of] at hK
    rw [sem_bind]
    exact sem_mapSet hu hk hd hK
  | mapLen c x t key elem hop hc ha htt hu=>
    have ha':c.args=#[x]:=by rw [← Array.toArray_toList (xs:=c.args),ha]
    have ht':c.argTypes=#[t]:=by rw [← Array.toArray_toList (xs:=c.argTypes),htt]
    have he:execOp a.eval o=(Builtin.len_ #[t] o.type #[a.eval x] >>= fun x=>pure (Next.value x)):=by
      unfold execOp;rw [hop];simp only [resolve,hc,ha',ht',List.map_toArray,List.map_cons,List.map_nil];rfl
    rw [he]
    simp only [List.map_cons,List.map_nil,xv_of] at hK
    simp only [efP] at hK
    split at hK
    case h_2=>exact hK.elim
    rename_i es hm
    exact wrapV _ (sem_mapLen hu hm hK)
  | mapIns t m k v key elem d hop hu hk hd=>
    have he:execOp a.eval o=(Instr.mapUpdate t (a.eval m) (a.eval k) (a.eval v) >>= fun _=>pure Next.skip):=by
      unfold execOp;rw [hop]
    rw [he]
    simp only [List.map_cons,List.map_nil,xv_of] at hK
    rw [sem_bind]
    exact sem_mapSet hu hk hd hK
end
end Go.Eng
