/- The engine, part 12 (written by gen12.py): the rewriting by which the walk goes: heads first; what follows stands locked in an instance's place, where simp does not look. -/
import Derived.Test.YtoelfmmfjebabaaGreatDoorEng11
namespace Go.Eng
open Go
set_option linter.unusedVariables false
class Lk (α:Type) where
  out:α
def bindO {α:Type} (o:Option α) [f:Lk (α→Prop)]:Prop:=match o with
  | some a=>f.out a
  | none=>False
theorem bindO_some {α:Type} (a:α) (f:α→Prop):@bindO α (some a) ⟨f⟩=f a:=rfl
theorem bindO_none {α:Type} (f:Lk (α→Prop)):@bindO α none f=False:=rfl
def bindG {α:Type} (G:α) [f:Lk (α→Prop)]:Prop:=f.out G
theorem bindG_eq {α:Type} (G:α) (f:α→Prop):@bindG α G ⟨f⟩=f G:=rfl
def CallQ (p:Value→Prop) [k:Lk (Value→Prop)]:Prop:=∃ v,p v∧k.out v
theorem CallQ.of {p k:Value→Prop} (v:Value) (h:p v) (hk:k v):@CallQ p ⟨k⟩:=⟨v,h,hk⟩
def CallE (P:Program) (X:List Nat) (F:Base) (w0:World) (f:FuncId) (args:Array Value) (H:Hp) [K:Lk (Value→Hp→Prop)]:Prop:=CallG P X F w0 f args H K.out
def CallEF (P:Program) (X:List Nat) (F:Base) (w0:World) (fv:Value) (args:List Value) (H:Hp) [K:Lk (Value→Hp→Prop)]:Prop:=CallF P X F w0 fv args H K.out
theorem CallE.pure {P:Program} {X:List Nat} {F:Base} {w0:World} {f:FuncId} {args:Array Value} {H:Hp} {K:Value→Hp→Prop} {v:Value} (h:PureV P F f args v) (hk:K v H):@CallE P X F w0 f args H ⟨K⟩:=CallG.of_pure h hk
theorem CallE.pureH {P:Program} {X:List Nat} {F:Base} {w0:World} {f:FuncId} {args:Array Value} {H:Hp} {K:Value→Hp→Prop} {v:Value} (h:PureV P (rdObj F H) f args v) (hk:K v H):@CallE P X F w0 f args H ⟨K⟩:=CallG.of_pureH h hk
theorem CallEF.pureH {P:Program} {X:List Nat} {F:Base} {w0:World} {fv:Value} {args:List Value} {H:Hp} {K:Value→Hp→Prop} {v:Value} (h:PureF P (rdObj F H) fv args v) (hk:K v H):@CallEF P X F w0 fv args H ⟨K⟩:=by
  obtain ⟨f,fi,ca,h1,h2,h3⟩:=h
  exact ⟨f,fi,ca,h1,h2,CallG.of_pureH h3 hk⟩
theorem CallEF.pure {P:Program} {X:List Nat} {F:Base} {w0:World} {fv:Value} {args:List Value} {H:Hp} {K:Value→Hp→Prop} {v:Value} (h:PureF P F fv args v) (hk:K v H):@CallEF P X F w0 fv args H ⟨K⟩:=by
  obtain ⟨f,fi,ca,h1,h2,h3⟩:=h
  exact ⟨f,fi,ca,h1,h2,CallG.of_pure h3 hk⟩
theorem CallE.any {P:Program} {X:List Nat} {F:Base} {w0:World} {f:FuncId} {args:Array Value} {H:Hp} {K:Value→Hp→Prop} (h:CallG P X F w0 f args H K):@CallE P X F w0 f args H ⟨K⟩:=h
def NewB (F:Base) (H:Hp) (o:Obj) [k:Lk (Nat→Hp→Prop)]:Prop:=allocP F H o k.out
theorem NewB.of {F:Base} {H:Hp} {o:Obj} {k:Nat→Hp→Prop} (h:∀ b,(∀ e∈H,e.1≠b)→F b=none→k b ((b,o)::H)):@NewB F H o ⟨k⟩:=h
def LoopL (P:Program) (X:List Nat) (F:Base) (w0:World) (N:Nat) (b:SC) (U:Fr) (H:Hp) [Q:Lk (Ex→Fr→Hp→Prop)]:Prop:=LoopG (svc P X F w0 N b) U H Q.out
def JmpL (P:Program) (X:List Nat) (F:Base) (w0:World) (N:Nat) (l:Nat) (b:SC) (U:Fr) (H:Hp) [Q:Lk (Ex→Fr→Hp→Prop)]:Prop:=JmpG l (svc P X F w0 N b) Q.out U H
def TreeL (P:Program) (X:List Nat) (F:Base) (w0:World) (N:Nat) (t:RT) (U:Fr) (H:Hp) [Q:Lk (Fr→Hp→Prop)]:Prop:=TreeG (fun K=>svT P X F w0 N K t U [] H) Q.out
def CutK {α:Type} (I:α→Prop) (fr:α→Fr) (hp:α→Hp) (U:Fr) (H:Hp):Prop:=∃ x,I x∧Le (fr x) U∧HLe (hp x) H
theorem CutK.on {α:Type} {I:α→Prop} {fr:α→Fr} {hp:α→Hp} {U:Fr} {H:Hp} (x:α) (h:I x) (h1:Le (fr x) U) (h2:HLe (hp x) H):CutK I fr hp U H:=⟨x,h,h1,h2⟩
theorem TreeL.cut {P:Program} {X:List Nat} {F:Base} {w0:World} {N:Nat} {t:RT} {U:Fr} {H:Hp} {Q:Fr→Hp→Prop} {α:Type} (I:α→Prop) (fr:α→Fr) (hp:α→Hp)
    (h1:svT P X F w0 N (CutK I fr hp) t U [] H) (h2:∀ x,I x→Q (fr x) (hp x)):@TreeL P X F w0 N t U H ⟨Q⟩:=
  ⟨CutK I fr hp,h1,fun _ _ ⟨x,h,hl,hh⟩=>.inr ⟨fr x,hp x,hl,hh,h2 x h⟩⟩
theorem TreeL.open {P:Program} {X:List Nat} {F:Base} {w0:World} {N:Nat} {t:RT} {U:Fr} {H:Hp} {Q:Fr→Hp→Prop} (h:svT P X F w0 N Q t U [] H):@TreeL P X F w0 N t U H ⟨Q⟩:=⟨Q,h,fun _ _ h=>.inl h⟩
def CallN (P:Program) (X:List Nat) (F:Base) (w0:World) (f:FuncId) (args:Array Value) (H:Hp) [K:Lk (Value→Hp→Prop)]:Prop:=CallG P X F w0 f args H (fun v H'=>Hext F H H'∧K.out v H')
def CallNF (P:Program) (X:List Nat) (F:Base) (w0:World) (fv:Value) (args:List Value) (H:Hp) [K:Lk (Value→Hp→Prop)]:Prop:=CallF P X F w0 fv args H (fun v H'=>Hext F H H'∧K.out v H')
theorem CallN.pure {P:Program} {X:List Nat} {F:Base} {w0:World} {f:FuncId} {args:Array Value} {H:Hp} {K:Value→Hp→Prop} {v:Value} (h:PureV P F f args v) (hk:K v H):@CallN P X F w0 f args H ⟨K⟩:=CallG.of_pure h ⟨Hext.refl _ _,hk⟩
theorem CallN.pureH {P:Program} {X:List Nat} {F:Base} {w0:World} {f:FuncId} {args:Array Value} {H:Hp} {K:Value→Hp→Prop} {v:Value} (h:PureV P (rdObj F H) f args v) (hk:K v H):@CallN P X F w0 f args H ⟨K⟩:=CallG.of_pureH h ⟨Hext.refl _ _,hk⟩
def conj (a:Prop) [b:Lk Prop]:Prop:=a∧b.out
theorem conj_true (b:Prop):@conj True ⟨b⟩=b:=by simp [conj]
theorem conj_false (b:Lk Prop):@conj False b=False:=by simp [conj]
theorem conj.of {a b:Prop} (h:a) (k:b):@conj a ⟨b⟩:=⟨h,k⟩
section
variable (P:Program) (X₀:List Nat) (F:Base) (w0:World) (N:Nat)
def seqK (b:SC) (Q:Ex→Fr→Hp→Prop):Ex→Fr→Hp→Prop
  | .n,U,H=>svc P X₀ F w0 N b U H Q
  | e,U,H=>Q e U H
def blockK (id:Nat) (Q:Ex→Fr→Hp→Prop):Ex→Fr→Hp→Prop
  | .x id',U,H=>if id'=id then Q .n U H else Q (.x id') U H
  | e,U,H=>Q e U H
def jqK (l:Nat) (b:SC) (Q:Ex→Fr→Hp→Prop):Ex→Fr→Hp→Prop:=jq l (JmpG l (svc P X₀ F w0 N b) Q) Q
def nK (Q:Ex→Fr→Hp→Prop) (U:Fr) (H:Hp):Prop:=Q .n U H
end
section
variable {P:Program} {X₀:List Nat} {F:Base} {w0:World} {N:Nat} {U:Fr} {C:Cf} {H:Hp} {Q:Ex→Fr→Hp→Prop} {next:Fr→Cf→Hp→Prop} {d:Option Nat} {k:Kind} {l:Nat}
theorem svc_skip:svc P X₀ F w0 N .skip U H Q=Q .n U H:=rfl
theorem svc_tree {t:RT}:svc P X₀ F w0 N (.tree t) U H Q=@TreeL P X₀ F w0 N t U H ⟨nK Q⟩:=rfl
theorem svc_reg {l:List SO}:svc P X₀ F w0 N (.reg l) U H Q=svL P X₀ F w0 N (nK Q) l U [] H:=rfl
theorem svc_seq {a b:SC}:svc P X₀ F w0 N (.seq a b) U H Q=svc P X₀ F w0 N a U H (seqK P X₀ F w0 N b Q):=by
  simp only [svc];congr;funext e U H;cases e <;> rfl
def boolO:Option Value→Option Bool
  | some (.bool p)=>some p
  | _=>none
theorem svc_cond {c:X} {a b:SC}:svc P X₀ F w0 N (.cond c a b) U H Q=@bindO _ (boolO (rd U [] [] c)) ⟨fun p=>(p=true→svc P X₀ F w0 N a U H Q)∧(p=false→svc P X₀ F w0 N b U H Q)⟩:=by
  simp only [svc]
  cases rd U [] [] c with
  | none=>rfl
  | some v=>cases v <;> rfl
theorem svc_block {id:Nat} {b:SC}:svc P X₀ F w0 N (.block id b) U H Q=svc P X₀ F w0 N b U H (blockK id Q):=by
  simp only [svc];congr;funext e U H;cases e <;> rfl
theorem svc_loop {b:SC}:svc P X₀ F w0 N (.loop b) U H Q=@LoopL P X₀ F w0 N b U H ⟨Q⟩:=rfl
def rounds (P:Program) (X₀:List Nat) (F:Base) (w0:World) (N:Nat) (b:SC) (Q:Ex→Fr→Hp→Prop):Nat→Fr→Hp→Prop:=LoopR (svc P X₀ F w0 N b) Q
def roundK (P:Program) (X₀:List Nat) (F:Base) (w0:World) (N:Nat) (b:SC) (Q:Ex→Fr→Hp→Prop) (n:Nat):Ex→Fr→Hp→Prop
  | .n,U,H=>rounds P X₀ F w0 N b Q n U H
  | e,U,H=>Q e U H
theorem rounds_s {b:SC} {n:Nat}:rounds P X₀ F w0 N b Q (n+1) U H=svc P X₀ F w0 N b U H (roundK P X₀ F w0 N b Q n):=by
  simp only [rounds,LoopR];congr;funext e U H;cases e <;> rfl
theorem roundK_n {b:SC} {n:Nat}:roundK P X₀ F w0 N b Q n .n U H=rounds P X₀ F w0 N b Q n U H:=rfl
theorem roundK_x {b:SC} {n id:Nat}:roundK P X₀ F w0 N b Q n (.x id) U H=Q (.x id) U H:=rfl
theorem roundK_r {b:SC} {n:Nat}:roundK P X₀ F w0 N b Q n .r U H=Q .r U H:=rfl
theorem LoopL.go {b:SC} (n:Nat) (h:rounds P X₀ F w0 N b Q n U H):@LoopL P X₀ F w0 N b U H ⟨Q⟩:=.inr ⟨n,h⟩
def invK {α:Type} (I:α→Prop) (fr:α→Fr) (hp:α→Hp) (μ:α→Nat) (x:α) (Q:Ex→Fr→Hp→Prop):Ex→Fr→Hp→Prop
  | .n,U,H=>∃ y,I y∧μ y < μ x∧Le (fr y) U∧HLe (hp y) H
  | e,U,H=>Q e U H
theorem invK_x {α:Type} {I:α→Prop} {fr:α→Fr} {hp:α→Hp} {μ:α→Nat} {x:α} {id:Nat}:invK I fr hp μ x Q (.x id) U H=Q (.x id) U H:=rfl
theorem invK_r {α:Type} {I:α→Prop} {fr:α→Fr} {hp:α→Hp} {μ:α→Nat} {x:α}:invK I fr hp μ x Q .r U H=Q .r U H:=rfl
theorem invK.on {α:Type} {I:α→Prop} {fr:α→Fr} {hp:α→Hp} {μ:α→Nat} {x:α} (y:α) (h:I y) (hμ:μ y < μ x) (hU:Le (fr y) U) (hH:HLe (hp y) H):invK I fr hp μ x Q .n U H:=⟨y,h,hμ,hU,hH⟩
theorem LoopL.inv {b:SC} {α:Type} (I:α→Prop) (fr:α→Fr) (hp:α→Hp) (μ:α→Nat) (x0:α) (h0:I x0) (hU:Le (fr x0) U) (hH:HLe (hp x0) H)
    (round:∀ x,I x→svc P X₀ F w0 N b (fr x) (hp x) (invK I fr hp μ x Q)):@LoopL P X₀ F w0 N b U H ⟨Q⟩:=by
  refine .inl ⟨α,I,fr,hp,μ,⟨x0,h0,hU,hH⟩,fun x hx=>?_⟩
  have:=round x hx
  have e:invK I fr hp μ x Q=(fun e U' H'=>match e with
      | .n=>∃ y,I y∧μ y < μ x∧Le (fr y) U'∧HLe (hp y) H'
      | e=>Q e U' H'):=by funext e U H;cases e <;> rfl
  rw [e] at this
  exact this
theorem jqK_n {l:Nat} {b:SC}:jqK P X₀ F w0 N l b Q .n U H=Q .n U H:=rfl
theorem jqK_r {l:Nat} {b:SC}:jqK P X₀ F w0 N l b Q .r U H=Q .r U H:=rfl
theorem jqK_x {l id:Nat} {b:SC}:jqK P X₀ F w0 N l b Q (.x id) U H=if id=1000000+l then @JmpL P X₀ F w0 N l b U H ⟨Q⟩ else Q (.x id) U H:=rfl
def JmpK {α:Type} (I:α→Prop) (fr:α→Fr) (hp:α→Hp) (μ:α→Nat) (x:α) (U:Fr) (H:Hp):Prop:=∃ y,I y∧μ y < μ x∧Le (fr y) U∧HLe (hp y) H
theorem JmpK.on {α:Type} {I:α→Prop} {fr:α→Fr} {hp:α→Hp} {μ:α→Nat} {x:α} (y:α) (h:I y) (hμ:μ y < μ x) (hU:Le (fr y) U) (hH:HLe (hp y) H):JmpK I fr hp μ x U H:=⟨y,h,hμ,hU,hH⟩
def jiK {α:Type} (l:Nat) (I:α→Prop) (fr:α→Fr) (hp:α→Hp) (μ:α→Nat) (x:α) (Q:Ex→Fr→Hp→Prop):Ex→Fr→Hp→Prop:=jq l (JmpK I fr hp μ x) Q
theorem jiK_n {α:Type} {l:Nat} {I:α→Prop} {fr:α→Fr} {hp:α→Hp} {μ:α→Nat} {x:α}:jiK l I fr hp μ x Q .n U H=Q .n U H:=rfl
theorem jiK_r {α:Type} {l:Nat} {I:α→Prop} {fr:α→Fr} {hp:α→Hp} {μ:α→Nat} {x:α}:jiK l I fr hp μ x Q .r U H=Q .r U H:=rfl
theorem jiK_x {α:Type} {l id:Nat} {I:α→Prop} {fr:α→Fr} {hp:α→Hp} {μ:α→Nat} {x:α}:jiK l I fr hp μ x Q (.x id) U H=if id=1000000+l then JmpK I fr hp μ x U H else Q (.x id) U H:=rfl
theorem JmpL.inv {l:Nat} {b:SC} {α:Type} (I:α→Prop) (fr:α→Fr) (hp:α→Hp) (μ:α→Nat) (x0:α) (h0:I x0) (hU:Le (fr x0) U) (hH:HLe (hp x0) H)
    (round:∀ x,I x→svc P X₀ F w0 N b (fr x) (hp x) (jiK l I fr hp μ x Q)):@JmpL P X₀ F w0 N l b U H ⟨Q⟩:=⟨α,I,fr,hp,μ,⟨x0,h0,hU,hH⟩,round⟩
theorem Le_nil:Le [] U=True:=rfl
theorem Le_cons {s:Nat} {v:Value} {r:Fr}:Le ((s,some v)::r) U=(lkU U s=some v∧Le r U):=rfl
theorem HLe_nil:HLe [] H=True:=rfl
theorem HLe_cons {b:Nat} {o:Obj} {r:Hp}:HLe ((b,o)::r) H=(lk H b=some o∧HLe r H):=rfl
theorem svc_scope {l:Nat} {a b:SC}:svc P X₀ F w0 N (.scope l a b) U H Q=svc P X₀ F w0 N a U H (jqK P X₀ F w0 N l b Q):=rfl
theorem svc_exit {id:Nat}:svc P X₀ F w0 N (.exit id) U H Q=Q (.x id) U H:=rfl
theorem svc_ret:svc P X₀ F w0 N .ret U H Q=Q .r U H:=rfl
theorem seqK_n {b:SC}:seqK P X₀ F w0 N b Q .n U H=svc P X₀ F w0 N b U H Q:=rfl
theorem seqK_x {b:SC} {id:Nat}:seqK P X₀ F w0 N b Q (.x id) U H=Q (.x id) U H:=rfl
theorem seqK_r {b:SC}:seqK P X₀ F w0 N b Q .r U H=Q .r U H:=rfl
theorem blockK_n {id:Nat}:blockK id Q .n U H=Q .n U H:=rfl
theorem blockK_x {id:Nat}:blockK id Q (.x id) U H=Q .n U H:=by simp [blockK]
theorem blockK_x' {id id':Nat}:blockK id Q (.x id') U H=if id'=id then Q .n U H else Q (.x id') U H:=rfl
theorem blockK_r {id:Nat}:blockK id Q .r U H=Q .r U H:=rfl
theorem nK_eq:nK Q U H=Q .n U H:=rfl
theorem fin_n {rv:List RV} {K:Value→Hp→Prop}:fin F rv K .n U H=@bindO _ (resL F H U rv) ⟨fun l=>K (resV l) H⟩:=by simp only [fin];cases resL F H U rv <;> rfl
theorem fin_r {rv:List RV} {K:Value→Hp→Prop}:fin F rv K .r U H=@bindO _ (resL F H U rv) ⟨fun l=>K (resV l) H⟩:=by simp only [fin];cases resL F H U rv <;> rfl
theorem svT_done {K:Fr→Hp→Prop}:svT P X₀ F w0 N K .done U C H=K U H:=rfl
theorem svT_stop {K:Fr→Hp→Prop}:svT P X₀ F w0 N K .stop U C H=True:=rfl
theorem svT_op {K:Fr→Hp→Prop} {s:SO} {r:RT}:svT P X₀ F w0 N K (.op s r) U C H=stp P X₀ F w0 N s U C H (svT P X₀ F w0 N K r):=rfl
theorem svT_alt {K:Fr→Hp→Prop} {s:SO} {r o:RT}:svT P X₀ F w0 N K (.alt s r o) U C H=(stp P X₀ F w0 N s U C H (svT P X₀ F w0 N K r)∧svT P X₀ F w0 N K o U C H):=rfl
theorem svL_nil {K:Fr→Hp→Prop}:svL P X₀ F w0 N K [] U C H=K U H:=rfl
theorem svL_cons {K:Fr→Hp→Prop} {o:SO} {r:List SO}:svL P X₀ F w0 N K (o::r) U C H=stp P X₀ F w0 N o U C H (svL P X₀ F w0 N K r):=rfl
def put (d:Option Nat) (G:List Nat) (v:Value) (U:Fr) (C:Cf) (H:Hp) (next:Fr→Cf→Hp→Prop):Prop:=wr d G v U C (fun U C=>next U C H)
theorem put_none {G:List Nat} {v:Value}:put none G v U C H next=next U C H:=rfl
theorem put_nil {d:Nat} {v:Value}:put (some d) [] v U [] H next=next ((d,some v)::U) [] H:=by simp [put,wr,cfree]
theorem put_nil' {d:Nat} {v:Value}:put (some d) [] v U C H next=@conj (cfree d C=true) ⟨next ((d,some v)::U) C H⟩:=rfl
theorem put_cons {d l:Nat} {r:List Nat} {v:Value}:put (some d) (l::r) v U C H next=@conj ((cfree d C&&freeG d (l::r))=true) ⟨next ((d,none)::U) ((d,l::r,v)::C) H⟩:=by
  simp [put,wr,and_assoc,conj]
def owe (U:Fr) (C:Cf) (G:List Nat) (ob:Prop):Prop:=Wf U C G G→ob
theorem owe_nil {ob:Prop}:owe U C [] ob=ob:=by simp [owe,Wf]
theorem owe_cons {l:Nat} {r:List Nat} {ob:Prop}:owe U C (l::r) ob=(Wf U C (l::r) (l::r)→ob):=rfl
def qend (U:Fr) (C:Cf) (G:List Nat) (d:Option Nat) (H:Hp) (next:Fr→Cf→Hp→Prop) (z:Prop×Value):Prop:=@conj (owe U C G z.1) ⟨put d G z.2 U C H next⟩
theorem qend_eq {G:List Nat} {ob:Prop} {v:Value}:qend U C G d H next (ob,v)=@conj (owe U C G ob) ⟨put d G v U C H next⟩:=rfl
theorem qend_true {v:Value}:qend U C [] d H next (True,v)=put d [] v U C H next:=by simp [qend,owe,Wf,conj]
theorem stp_quiet {s:S} {g:Option Nat} (hs:stp P X₀ F w0 N ⟨d,s,g,k⟩ U C H next=(match qev F H (rd U C (chain C g)) (rd U C (lit (pickC s) 1++chain C g)) (rd U C (lit (pickC s) 0++chain C g)) s with
    | some (ob,v)=>(Wf U C (chain C g) (chain C g)→ob)∧wr d (chain C g) v U C (fun U C=>next U C H)
    | none=>False)) {z:Option (Prop×Value)} (hz:qev F H (rd U C (chain C g)) (rd U C (lit (pickC s) 1++chain C g)) (rd U C (lit (pickC s) 0++chain C g)) s=z) :
    stp P X₀ F w0 N ⟨d,s,g,k⟩ U C H next=@bindO _ z ⟨qend U C (chain C g) d H next⟩:=by
  rw [hs,hz]
  cases z with
  | none=>rfl
  | some z=>rfl
theorem stp_mv {x:X} {g:Option Nat}:stp P X₀ F w0 N ⟨d,.mv x,g,k⟩ U C H next=@bindG _ (chain C g) ⟨fun G=>@bindO _ (rd U C G x) ⟨fun v=>put d G v U C H next⟩⟩:=by
  rw [stp_quiet rfl rfl];simp only [bindG,qev]
  cases rd U C (chain C g) x <;> simp [bindO,qend,conj,owe]
def pickO (p vx vy:Value):Option (Prop×Value):=match p with
  | .bool p=>some ((p=true→isB vx)∧(p=false→isB vy),.bool (bif p then asB vx else asB vy))
  | _=>none
theorem stp_pick {c x y:X} {g:Option Nat}:stp P X₀ F w0 N ⟨d,.pick c x y,g,k⟩ U C H next=@bindG _ (chain C g) ⟨fun G=>@bindO _ (rd U C G c) ⟨fun p=>@bindO _ (rd U C (lit c 1++G) x) ⟨fun vx=>@bindO _ (rd U C (lit c 0++G) y) ⟨fun vy=>@bindO _ (pickO p vx vy) ⟨qend U C G d H next⟩⟩⟩⟩⟩:=by
  rw [stp_quiet rfl rfl];simp only [bindG,qev,pickC]
  cases rd U C (chain C g) c with
  | none=>rfl
  | some p=>
    cases rd U C (lit c 1++chain C g) x with
    | none=>cases p <;> rfl
    | some vx=>
      cases rd U C (lit c 0++chain C g) y with
      | none=>cases p <;> rfl
      | some vy=>cases p <;> rfl
theorem stp_bin {op:BinOp} {x y:X} {g:Option Nat}:stp P X₀ F w0 N ⟨d,.bin op x y,g,k⟩ U C H next=@bindG _ (chain C g) ⟨fun G=>@bindO _ (rd U C G x) ⟨fun a=>@bindO _ (rd U C G y) ⟨fun b=>@bindO _ (binq op a b) ⟨qend U C G d H next⟩⟩⟩⟩:=by
  rw [stp_quiet rfl rfl];simp only [bindG,qev]
  cases rd U C (chain C g) x <;> cases rd U C (chain C g) y <;> rfl
def nR:X→Option Value:=fun _=>none
theorem ofInt_toNat (x:Int):(BitVec.ofInt 64 x).toNat=(x % 18446744073709551616).toNat:=by
  rw [BitVec.toNat_ofInt];rfl
theorem and_32o (x:Int):IntKind.u64.wrap ((BitVec.ofInt 64 x &&& BitVec.ofInt 64 4294967295).toNat:Int)=x % 4294967296:=by
  rw [wrap_u64,BitVec.toNat_and,ofInt_toNat,ofInt_toNat]
  have e:((4294967295:Int) % 18446744073709551616).toNat=2 ^ 32 - 1:=by decide
  rw [e,Nat.and_two_pow_sub_one_eq_mod]
  have e2:(2:Nat) ^ 32=4294967296:=by decide
  rw [e2]
  omega
theorem or_32 (x y:Int) (hx:0≤x∧x < 4294967296) (hy:0≤y∧y < 4294967296):IntKind.u64.wrap ((BitVec.ofInt 64 (x * 4294967296) ||| BitVec.ofInt 64 y).toNat:Int)=x * 4294967296+y:=by
  rw [wrap_u64,BitVec.toNat_or,ofInt_toNat,ofInt_toNat]
  have e1:(x * 4294967296 % 18446744073709551616).toNat=x.toNat <<< 32:=by
    rw [Nat.shiftLeft_eq]
    have e2:(2:Nat) ^ 32=4294967296:=by decide
    rw [e2];omega
  have e3:(y % 18446744073709551616).toNat=y.toNat:=by omega
  have e2:(2:Nat) ^ 32=4294967296:=by decide
  have hlt:y.toNat < 2 ^ 32:=by rw [e2];omega
  rw [e1,e3,← Nat.shiftLeft_add_eq_or_of_lt hlt,Nat.shiftLeft_eq,e2]
  omega
theorem and_32o' (x:Int):((BitVec.ofInt 64 x &&& BitVec.ofInt 64 4294967295).toNat:Int)=x % 4294967296:=by
  have:=and_32o x
  rw [in_u64 _ (by omega)] at this
  exact this
theorem m32:BitVec.ofInt 64 4294967295=4294967295#64:=by decide
theorem and_32 (x:Int):IntKind.u64.wrap ((BitVec.ofInt 64 x &&& 4294967295#64).toNat:Int)=x % 4294967296:=by rw [← m32];exact and_32o x
theorem and_32' (x:Int):((BitVec.ofInt 64 x &&& 4294967295#64).toNat:Int)=x % 4294967296:=by rw [← m32];exact and_32o' x
theorem or_32' (x y:Int) (hx:0≤x∧x < 4294967296) (hy:0≤y∧y < 4294967296):((BitVec.ofInt 64 (x * 4294967296) ||| BitVec.ofInt 64 y).toNat:Int)=x * 4294967296+y:=by
  have:=or_32 x y hx hy
  rw [in_u64 _ (by omega)] at this
  exact this
theorem fdiv_32 (x:Int):x.fdiv 4294967296=x / 4294967296:=Int.fdiv_eq_ediv_of_nonneg _ (by decide)
def strO:Option Value→Option (List UInt8)
  | some (.string s)=>some s.data.toList
  | _=>none
def beqV (n:Bool) (p q:Value):Option (Prop×Value):=qev (fun _=>none) [] (fun | .t 0=>some p | _=>some q) nR nR (.beq n (.t 0) (.t 1))
theorem stp_beq {g':Option Nat} (n:Bool) (x y:X):stp P X₀ F w0 N ⟨d,.beq n x y,g',k⟩ U C H next=@bindG _ (chain C g') ⟨fun G=>@bindO _ (rd U C G x) ⟨fun p=>@bindO _ (rd U C G y) ⟨fun q=>@bindO _ (beqV n p q) ⟨qend U C G d H next⟩⟩⟩⟩:=by
  rw [stp_quiet rfl rfl];simp only [bindG,qev]
  cases rd U C (chain C g') x with
  | none=>rfl
  | some vx=>cases rd U C (chain C g') y with
    | none=>cases vx <;> first | rfl | (rename_i a;cases a <;> first | rfl | (rename_i a;obtain ⟨b,off,sp⟩:=a;cases sp <;> rfl)) | (rename_i a _ _;cases a <;> first | rfl | (rename_i a;obtain ⟨b,off,sp⟩:=a;cases sp <;> rfl))
    | some vy=>rfl
theorem beqV_of {n:Bool} {a b:Bool}:beqV n (.bool a) (.bool b)=some (True,.bool (if n then !(a==b) else a==b)):=rfl
def ueqV (n:Bool) (p q:Value):Option (Prop×Value):=qev (fun _=>none) [] (fun | .t 0=>some p | _=>some q) nR nR (.ueq n (.t 0) (.t 1))
theorem stp_ueq {g':Option Nat} (n:Bool) (x y:X):stp P X₀ F w0 N ⟨d,.ueq n x y,g',k⟩ U C H next=@bindG _ (chain C g') ⟨fun G=>@bindO _ (rd U C G x) ⟨fun p=>@bindO _ (rd U C G y) ⟨fun q=>@bindO _ (ueqV n p q) ⟨qend U C G d H next⟩⟩⟩⟩:=by
  rw [stp_quiet rfl rfl];simp only [bindG,qev]
  cases rd U C (chain C g') x with
  | none=>rfl
  | some vx=>cases rd U C (chain C g') y with
    | none=>cases vx <;> first | rfl | (rename_i a;cases a <;> first | rfl | (rename_i a;obtain ⟨b,off,sp⟩:=a;cases sp <;> rfl)) | (rename_i a _ _;cases a <;> first | rfl | (rename_i a;obtain ⟨b,off,sp⟩:=a;cases sp <;> rfl))
    | some vy=>rfl
theorem ueqV_of {n:Bool} {a b c d':ByteArray}:ueqV n (.agg #[.string a,.string b]) (.agg #[.string c,.string d'])=some (True,.bool (if n then !(a.data.toList==c.data.toList&&b.data.toList==d'.data.toList) else a.data.toList==c.data.toList&&b.data.toList==d'.data.toList)):=rfl
def unV (op:UnOp) (p:Value):Option (Prop×Value):=qev (fun _=>none) [] (fun _=>some p) nR nR (.un op (.t 0))
theorem stp_un {g':Option Nat} (op:UnOp) (x:X):stp P X₀ F w0 N ⟨d,.un op x,g',k⟩ U C H next=@bindG _ (chain C g') ⟨fun G=>@bindO _ (rd U C G x) ⟨fun p=>@bindO _ (unV op p) ⟨qend U C G d H next⟩⟩⟩:=by
  rw [stp_quiet rfl rfl];simp only [bindG,qev]
  cases rd U C (chain C g') x <;> rfl
def convV (kk:IntKind) (p:Value):Option (Prop×Value):=qev (fun _=>none) [] (fun _=>some p) nR nR (.conv kk (.t 0))
theorem stp_conv {g':Option Nat} (kk:IntKind) (x:X):stp P X₀ F w0 N ⟨d,.conv kk x,g',k⟩ U C H next=@bindG _ (chain C g') ⟨fun G=>@bindO _ (rd U C G x) ⟨fun p=>@bindO _ (convV kk p) ⟨qend U C G d H next⟩⟩⟩:=by
  rw [stp_quiet rfl rfl];simp only [bindG,qev]
  cases rd U C (chain C g') x <;> rfl
theorem convV_of {kk:IntKind} {k':IntKind} {n:Int}:convV kk (.int k' n)=some (True,.int kk (kk.wrap n)):=rfl
def addV (n:Nat) (p:Value):Option (Prop×Value):=qev (fun _=>none) [] (fun _=>some p) nR nR (.add n (.t 0))
theorem stp_add {g':Option Nat} (n:Nat) (x:X):stp P X₀ F w0 N ⟨d,.add n x,g',k⟩ U C H next=@bindG _ (chain C g') ⟨fun G=>@bindO _ (rd U C G x) ⟨fun p=>@bindO _ (addV n p) ⟨qend U C G d H next⟩⟩⟩:=by
  rw [stp_quiet rfl rfl];simp only [bindG,qev]
  cases rd U C (chain C g') x <;> rfl
theorem addV_of {n:Nat} {b off:Nat}:addV n (.pointer (some ⟨b,off,none⟩))=some (True,.pointer (some ⟨b,off+n,none⟩)):=rfl
def fldV (off n:Nat) (g:Bool) (p:Value):Option (Prop×Value):=qev (fun _=>none) [] (fun _=>some p) nR nR (.fld off n g (.t 0))
theorem stp_fld {g':Option Nat} (off n:Nat) (g:Bool) (x:X):stp P X₀ F w0 N ⟨d,.fld off n g x,g',k⟩ U C H next=@bindG _ (chain C g') ⟨fun G=>@bindO _ (rd U C G x) ⟨fun p=>@bindO _ (fldV off n g p) ⟨qend U C G d H next⟩⟩⟩:=by
  rw [stp_quiet rfl rfl];simp only [bindG,qev]
  cases rd U C (chain C g') x <;> rfl
theorem fldV_of {off n:Nat} {g:Bool} {cs:Array Value}:fldV off n g (.agg cs)=if g then some (off+n≤cs.size,.agg ((cs.toList.drop off).take n).toArray) else some (off < cs.size,cs.getD off undef):=rfl
def ixAV (len n:Nat) (p q:Value):Option (Prop×Value):=qev (fun _=>none) [] (fun | .t 0=>some p | _=>some q) nR nR (.ixA len n (.t 0) (.t 1))
theorem stp_ixA {g':Option Nat} (len n:Nat) (x y:X):stp P X₀ F w0 N ⟨d,.ixA len n x y,g',k⟩ U C H next=@bindG _ (chain C g') ⟨fun G=>@bindO _ (rd U C G x) ⟨fun p=>@bindO _ (rd U C G y) ⟨fun q=>@bindO _ (ixAV len n p q) ⟨qend U C G d H next⟩⟩⟩⟩:=by
  rw [stp_quiet rfl rfl];simp only [bindG,qev]
  cases rd U C (chain C g') x with
  | none=>rfl
  | some vx=>cases rd U C (chain C g') y with
    | none=>cases vx <;> first | rfl | (rename_i a;cases a <;> first | rfl | (rename_i a;obtain ⟨b,off,sp⟩:=a;cases sp <;> rfl)) | (rename_i a _ _;cases a <;> first | rfl | (rename_i a;obtain ⟨b,off,sp⟩:=a;cases sp <;> rfl))
    | some vy=>rfl
theorem ixAV_of {len n:Nat} {b off:Nat} {kk:IntKind} {i:Int}:ixAV len n (.pointer (some ⟨b,off,none⟩)) (.int kk i)=some (0≤i∧i < len,.pointer (some ⟨b,off+i.toNat * n,none⟩)):=rfl
def ixSV (n:Nat) (p q:Value):Option (Prop×Value):=qev (fun _=>none) [] (fun | .t 0=>some p | _=>some q) nR nR (.ixS n (.t 0) (.t 1))
theorem stp_ixS {g':Option Nat} (n:Nat) (x y:X):stp P X₀ F w0 N ⟨d,.ixS n x y,g',k⟩ U C H next=@bindG _ (chain C g') ⟨fun G=>@bindO _ (rd U C G x) ⟨fun p=>@bindO _ (rd U C G y) ⟨fun q=>@bindO _ (ixSV n p q) ⟨qend U C G d H next⟩⟩⟩⟩:=by
  rw [stp_quiet rfl rfl];simp only [bindG,qev]
  cases rd U C (chain C g') x with
  | none=>rfl
  | some vx=>cases rd U C (chain C g') y with
    | none=>cases vx <;> first | rfl | (rename_i a;cases a <;> first | rfl | (rename_i a;obtain ⟨b,off,sp⟩:=a;cases sp <;> rfl)) | (rename_i a _ _;cases a <;> first | rfl | (rename_i a;obtain ⟨b,off,sp⟩:=a;cases sp <;> rfl))
    | some vy=>rfl
theorem ixSV_of {n:Nat} {b off len cap:Nat} {kk:IntKind} {i:Int}:ixSV n (.slice (some ⟨b,off,none⟩) len cap) (.int kk i)=some (0≤i∧i < len,.pointer (some ⟨b,off+i.toNat * n,none⟩)):=rfl
def ixStrV  (p q:Value):Option (Prop×Value):=qev (fun _=>none) [] (fun | .t 0=>some p | _=>some q) nR nR (.ixStr (.t 0) (.t 1))
theorem stp_ixStr {g':Option Nat} (x y:X):stp P X₀ F w0 N ⟨d,.ixStr x y,g',k⟩ U C H next=@bindG _ (chain C g') ⟨fun G=>@bindO _ (rd U C G x) ⟨fun p=>@bindO _ (rd U C G y) ⟨fun q=>@bindO _ (ixStrV  p q) ⟨qend U C G d H next⟩⟩⟩⟩:=by
  rw [stp_quiet rfl rfl];simp only [bindG,qev]
  cases rd U C (chain C g') x with
  | none=>rfl
  | some vx=>cases rd U C (chain C g') y with
    | none=>cases vx <;> first | rfl | (rename_i a;cases a <;> first | rfl | (rename_i a;obtain ⟨b,off,sp⟩:=a;cases sp <;> rfl)) | (rename_i a _ _;cases a <;> first | rfl | (rename_i a;obtain ⟨b,off,sp⟩:=a;cases sp <;> rfl))
    | some vy=>rfl
theorem ixStrV_of  {s:ByteArray} {kk:IntKind} {i:Int}:ixStrV  (.string s) (.int kk i)=some (0≤i∧i < s.data.toList.length,.int .u8 (s.data.toList.getD i.toNat 0).toNat):=rfl
def ixAggV (len n:Nat) (g:Bool) (p q:Value):Option (Prop×Value):=qev (fun _=>none) [] (fun | .t 0=>some p | _=>some q) nR nR (.ixAgg len n g (.t 0) (.t 1))
theorem stp_ixAgg {g':Option Nat} (len n:Nat) (g:Bool) (x y:X):stp P X₀ F w0 N ⟨d,.ixAgg len n g x y,g',k⟩ U C H next=@bindG _ (chain C g') ⟨fun G=>@bindO _ (rd U C G x) ⟨fun p=>@bindO _ (rd U C G y) ⟨fun q=>@bindO _ (ixAggV len n g p q) ⟨qend U C G d H next⟩⟩⟩⟩:=by
  rw [stp_quiet rfl rfl];simp only [bindG,qev]
  cases rd U C (chain C g') x with
  | none=>rfl
  | some vx=>cases rd U C (chain C g') y with
    | none=>cases vx <;> first | rfl | (rename_i a;cases a <;> first | rfl | (rename_i a;obtain ⟨b,off,sp⟩:=a;cases sp <;> rfl)) | (rename_i a _ _;cases a <;> first | rfl | (rename_i a;obtain ⟨b,off,sp⟩:=a;cases sp <;> rfl))
    | some vy=>rfl
theorem ixAggV_of {len n:Nat} {g:Bool} {cs:Array Value} {kk:IntKind} {i:Int}:ixAggV len n g (.agg cs) (.int kk i)=if g then some (0≤i∧i < len∧i.toNat * n+n≤cs.size,.agg ((cs.toList.drop (i.toNat * n)).take n).toArray) else some (0≤i∧i < len∧i.toNat * n < cs.size,cs.getD (i.toNat * n) undef):=rfl
def extV (i:Nat) (p:Value):Option (Prop×Value):=qev (fun _=>none) [] (fun _=>some p) nR nR (.ext (.t 0) i)
theorem stp_ext {g':Option Nat} (x:X) (i:Nat):stp P X₀ F w0 N ⟨d,.ext x i,g',k⟩ U C H next=@bindG _ (chain C g') ⟨fun G=>@bindO _ (rd U C G x) ⟨fun p=>@bindO _ (extV i p) ⟨qend U C G d H next⟩⟩⟩:=by
  rw [stp_quiet rfl rfl];simp only [bindG,qev]
  cases rd U C (chain C g') x <;> rfl
theorem extV_of {i:Nat} {vs:Array Value}:extV i (.tuple vs)=(vs[i]?).map fun v=>(True,v):=rfl
def lenStrV  (p:Value):Option (Prop×Value):=qev (fun _=>none) [] (fun _=>some p) nR nR (.lenStr (.t 0))
theorem stp_lenStr {g':Option Nat} (x:X):stp P X₀ F w0 N ⟨d,.lenStr x,g',k⟩ U C H next=@bindG _ (chain C g') ⟨fun G=>@bindO _ (rd U C G x) ⟨fun p=>@bindO _ (lenStrV  p) ⟨qend U C G d H next⟩⟩⟩:=by
  rw [stp_quiet rfl rfl];simp only [bindG,qev]
  cases rd U C (chain C g') x <;> rfl
theorem lenStrV_of  {s:ByteArray}:lenStrV  (.string s)=some (True,.int .i64 s.data.toList.length):=rfl
def lenSlV  (p:Value):Option (Prop×Value):=qev (fun _=>none) [] (fun _=>some p) nR nR (.lenSl (.t 0))
theorem stp_lenSl {g':Option Nat} (x:X):stp P X₀ F w0 N ⟨d,.lenSl x,g',k⟩ U C H next=@bindG _ (chain C g') ⟨fun G=>@bindO _ (rd U C G x) ⟨fun p=>@bindO _ (lenSlV  p) ⟨qend U C G d H next⟩⟩⟩:=by
  rw [stp_quiet rfl rfl];simp only [bindG,qev]
  cases rd U C (chain C g') x <;> rfl
theorem lenSlV_of  {a:Option Addr} {n c:Nat}:lenSlV  (.slice a n c)=some (True,.int .i64 n):=rfl
def nckV  (p:Value):Option (Prop×Value):=qev (fun _=>none) [] (fun _=>some p) nR nR (.nck (.t 0))
theorem stp_nck {g':Option Nat} (x:X):stp P X₀ F w0 N ⟨d,.nck x,g',k⟩ U C H next=@bindG _ (chain C g') ⟨fun G=>@bindO _ (rd U C G x) ⟨fun p=>@bindO _ (nckV  p) ⟨qend U C G d H next⟩⟩⟩:=by
  rw [stp_quiet rfl rfl];simp only [bindG,qev]
  cases rd U C (chain C g') x <;> rfl
theorem nckV_of  {z:Addr}:nckV  (.pointer (some z))=some (True,.pointer (some z)):=rfl
def mxV  (p q:Value):Option (Prop×Value):=qev (fun _=>none) [] (fun | .t 0=>some p | _=>some q) nR nR (.mx (.t 0) (.t 1))
theorem stp_mx {g':Option Nat} (x y:X):stp P X₀ F w0 N ⟨d,.mx x y,g',k⟩ U C H next=@bindG _ (chain C g') ⟨fun G=>@bindO _ (rd U C G x) ⟨fun p=>@bindO _ (rd U C G y) ⟨fun q=>@bindO _ (mxV  p q) ⟨qend U C G d H next⟩⟩⟩⟩:=by
  rw [stp_quiet rfl rfl];simp only [bindG,qev]
  cases rd U C (chain C g') x with
  | none=>rfl
  | some vx=>cases rd U C (chain C g') y with
    | none=>cases vx <;> first | rfl | (rename_i a;cases a <;> first | rfl | (rename_i a;obtain ⟨b,off,sp⟩:=a;cases sp <;> rfl)) | (rename_i a _ _;cases a <;> first | rfl | (rename_i a;obtain ⟨b,off,sp⟩:=a;cases sp <;> rfl))
    | some vy=>rfl
theorem mxV_of  {k k':IntKind} {a b:Int}:mxV  (.int k a) (.int k' b)=some (k=k',.int k (if b > a then b else a)):=rfl
def mnV  (p q:Value):Option (Prop×Value):=qev (fun _=>none) [] (fun | .t 0=>some p | _=>some q) nR nR (.mn (.t 0) (.t 1))
theorem stp_mn {g':Option Nat} (x y:X):stp P X₀ F w0 N ⟨d,.mn x y,g',k⟩ U C H next=@bindG _ (chain C g') ⟨fun G=>@bindO _ (rd U C G x) ⟨fun p=>@bindO _ (rd U C G y) ⟨fun q=>@bindO _ (mnV  p q) ⟨qend U C G d H next⟩⟩⟩⟩:=by
  rw [stp_quiet rfl rfl];simp only [bindG,qev]
  cases rd U C (chain C g') x with
  | none=>rfl
  | some vx=>cases rd U C (chain C g') y with
    | none=>cases vx <;> first | rfl | (rename_i a;cases a <;> first | rfl | (rename_i a;obtain ⟨b,off,sp⟩:=a;cases sp <;> rfl)) | (rename_i a _ _;cases a <;> first | rfl | (rename_i a;obtain ⟨b,off,sp⟩:=a;cases sp <;> rfl))
    | some vy=>rfl
theorem mnV_of  {k k':IntKind} {a b:Int}:mnV  (.int k a) (.int k' b)=some (k=k',.int k (if b < a then b else a)):=rfl
theorem ixSV_nil {n len cap:Nat} {kk:IntKind} {i:Int}:ixSV n (.slice none len cap) (.int kk i)=some (False,undef):=rfl
theorem ixSV_spot {n b off s len cap:Nat} {kk:IntKind} {i:Int}:ixSV n (.slice (some ⟨b,off,some s⟩) len cap) (.int kk i)=some (False,undef):=rfl
theorem addV_undef {n:Nat}:addV n undef=some (False,undef):=rfl
theorem beqV_undef {n b:Bool}:beqV n (.bool b) undef=some (False,.bool false):=rfl
theorem unV_neg {k:IntKind} {a:Int}:unV .neg (.int k a)=some (True,.int k (k.wrap (0 - a))):=rfl
theorem unV_not {b:Bool}:unV .not (.bool b)=some (True,.bool !b):=rfl
def ldV (F:Base) (H:Hp) (n:Nat) (g:Bool) (p:Value):Option (Prop×Value):=qev F H (fun _=>some p) nR nR (.ld n g (.t 0))
theorem stp_ld {g':Option Nat} (n:Nat) (g:Bool) (x:X):stp P X₀ F w0 N ⟨d,.ld n g x,g',k⟩ U C H next=@bindG _ (chain C g') ⟨fun G=>@bindO _ (rd U C G x) ⟨fun p=>@bindO _ (ldV F H n g p) ⟨qend U C G d H next⟩⟩⟩:=by
  rw [stp_quiet rfl rfl];simp only [bindG,qev]
  cases rd U C (chain C g') x <;> rfl
def ldC (n:Nat) (g:Bool):Option (List Value)→Option (Prop×Value)
  | some l=>if g then some (True,.agg l.toArray) else some (n=1,l.getD 0 undef)
  | none=>some (False,undef)
theorem ldV_of {n:Nat} {g:Bool} {b off:Nat}:ldV F H n g (.pointer (some ⟨b,off,none⟩))=ldC n g (cellsAt F H b off n):=by
  simp only [ldV,qev,ldC];cases cellsAt F H b off n <;> rfl
theorem ldV_undef {n:Nat} {g:Bool}:ldV F H n g undef=some (False,undef):=rfl
theorem ldV_ex (F:Base) (H:Hp) (n:Nat) (p:Value):∃ ob v,ldV F H n false p=some (ob,v):=by
  cases p with
  | pointer a=>
    rcases a with _ | ⟨b,off,_ | s⟩
    · exact ⟨_,_,rfl⟩
    · rw [ldV_of];cases cellsAt F H b off n <;> exact ⟨_,_,rfl⟩
    · exact ⟨_,_,rfl⟩
  | _=>exact ⟨_,_,rfl⟩
theorem binq_eql_ex (v u:Value):∃ ob c,binq .eql v u=some (ob,.bool c):=by
  cases v <;> cases u <;> exact ⟨_,_,rfl⟩
theorem ldC_agg {n:Nat} {l:List Value}:ldC n true (some l)=some (True,.agg l.toArray):=rfl
theorem ldC_one {l:List Value}:ldC 1 false (some l)=some (True,l.getD 0 undef):=by simp [ldC]
def bstrV (F:Base) (H:Hp) (p:Value):Option (Prop×Value):=qev F H (fun _=>some p) nR nR (.bstr (.t 0))
theorem stp_bstr {g':Option Nat} (x:X):stp P X₀ F w0 N ⟨d,.bstr x,g',k⟩ U C H next=@bindG _ (chain C g') ⟨fun G=>@bindO _ (rd U C G x) ⟨fun p=>@bindO _ (bstrV F H p) ⟨qend U C G d H next⟩⟩⟩:=by
  rw [stp_quiet rfl rfl];simp only [bindG,qev]
  cases rd U C (chain C g') x <;> rfl
def bstrC:Option (List Value)→Option (Prop×Value)
  | some l=>(u8s l).map fun u=>(True,.string (bs u))
  | none=>none
theorem bstrV_nil {n c:Nat}:bstrV F H (.slice none n c)=some (True,.string (bs [])):=rfl
theorem bstrV_of {b off n c:Nat}:bstrV F H (.slice (some ⟨b,off,none⟩) n c)=bstrC (cellsAt F H b off n):=by
  simp only [bstrV,qev,bstrC];cases cellsAt F H b off n with
  | none=>rfl
  | some l=>simp only;cases u8s l <;> rfl
theorem stp_mkF {g':Option Nat} (f:Fn) (x y:List X):stp P X₀ F w0 N ⟨d,.mkF f x y,g',k⟩ U C H next=@bindG _ (chain C g') ⟨fun G=>@bindO _ (rds U C G x) ⟨fun a=>@bindO _ (rds U C G y) ⟨fun b=>put d G (.func f a.toArray b.toArray) U C H next⟩⟩⟩:=by
  have e:∀ (G:List Nat) (l:List X),l.mapM (rd U C G)=rds U C G l:=fun G l=>by
    induction l with
    | nil=>rfl
    | cons x r ih=>
      simp only [List.mapM_cons,rds,Option.bind_eq_bind,ih]
      cases rd U C G x with
      | none=>rfl
      | some v=>cases rds U C G r <;> rfl
  rw [stp_quiet rfl rfl];simp only [bindG,qev,e]
  cases rds U C (chain C g') x <;> cases rds U C (chain C g') y <;> simp [bindO,qend,conj,owe]
theorem stp_build {g':Option Nat} (z:List Value) (ps:List (Nat×Nat×X)):stp P X₀ F w0 N ⟨d,.build z ps,g',k⟩ U C H next=@bindG _ (chain C g') ⟨fun G=>@bindO _ (fillL (rd U C G) z ps) ⟨fun p=>@conj (owe U C G p.1) ⟨put d G (.agg p.2.toArray) U C H next⟩⟩⟩:=by
  rw [stp_quiet rfl rfl];simp only [bindG,qev]
  cases fillL (rd U C (chain C g')) z ps <;> rfl
def rdB (U:Fr) (C:Cf) (G:List Nat) (d:Int):Option X→Option Int
  | none=>some d
  | some x=>(rd U C G x).bind bound
theorem rdB_eq {G:List Nat} {dd:Int} {x:Option X}:rdO (rd U C G) dd x=rdB U C G dd x:=by cases x <;> rfl
def sstrV (s:List UInt8) (l h:Int):Prop×Value:=(0≤l∧l≤h∧h≤s.length,.string (bs ((s.take h.toNat).drop l.toNat)))
theorem sstrV_eq {s:List UInt8} {l h:Int}:sstrV s l h=(0≤l∧l≤h∧h≤s.length,.string (bs ((s.take h.toNat).drop l.toNat))):=rfl
theorem stp_slStr {g':Option Nat} (x:X) (lo hi:Option X):stp P X₀ F w0 N ⟨d,.slStr x lo hi,g',k⟩ U C H next=@bindG _ (chain C g') ⟨fun G=>@bindO _ (strO (rd U C G x)) ⟨fun s=>@bindO _ (rdB U C G 0 lo) ⟨fun l=>@bindO _ (rdB U C G s.length hi) ⟨fun h=>qend U C G d H next (sstrV s l h)⟩⟩⟩⟩:=by
  rw [stp_quiet rfl rfl];simp only [bindG,qev,rdB_eq]
  cases rd U C (chain C g') x with
  | none=>rfl
  | some v=>cases v <;> first | rfl | (simp only [strO,bindO];generalize rdB U C (chain C g') 0 lo=A;cases A <;> (generalize rdB U C (chain C g') _ hi=B;cases B <;> rfl))
def slO:Option Value→Option (Nat×Nat×Nat×Nat)
  | some (.slice (some ⟨b,off,none⟩) len cap)=>some (b,off,len,cap)
  | _=>none
def sslV (n:Nat) (q:Nat×Nat×Nat×Nat) (l h:Int):Prop×Value:=(0≤l∧l≤h∧h≤q.2.2.2∧(l.toNat=q.2.2.2→l=0),.slice (some ⟨q.1,q.2.1+l.toNat * n,none⟩) (h - l).toNat (q.2.2.2 - l.toNat))
theorem sslV_eq {n b off len cap:Nat} {l h:Int}:sslV n (b,off,len,cap) l h=(0≤l∧l≤h∧h≤cap∧(l.toNat=cap→l=0),.slice (some ⟨b,off+l.toNat * n,none⟩) (h - l).toNat (cap - l.toNat)):=rfl
theorem stp_slS {g':Option Nat} (n:Nat) (x:X) (lo hi:Option X):stp P X₀ F w0 N ⟨d,.slS n x lo hi,g',k⟩ U C H next=@bindG _ (chain C g') ⟨fun G=>@bindO _ (slO (rd U C G x)) ⟨fun q=>@bindO _ (rdB U C G 0 lo) ⟨fun l=>@bindO _ (rdB U C G q.2.2.1 hi) ⟨fun h=>qend U C G d H next (sslV n q l h)⟩⟩⟩⟩:=by
  rw [stp_quiet rfl rfl];simp only [bindG,qev,rdB_eq]
  cases rd U C (chain C g') x with
  | none=>rfl
  | some v=>cases v <;> first | rfl | (rename_i a _ _;cases a <;> first | rfl | (rename_i a;obtain ⟨b,off,sp⟩:=a;cases sp <;> first | rfl | (simp only [slO,bindO];generalize rdB U C (chain C g') 0 lo=A;cases A <;> (generalize rdB U C (chain C g') _ hi=B;cases B <;> rfl))))
def sarV (len n:Nat) (q:Nat×Nat) (l h:Int):Prop×Value:=(0≤l∧l≤h∧h≤len∧(l.toNat=len→l=0),.slice (some ⟨q.1,q.2+l.toNat * n,none⟩) (h - l).toNat (len - l.toNat))
theorem sarV_eq {len n b off:Nat} {l h:Int}:sarV len n (b,off) l h=(0≤l∧l≤h∧h≤len∧(l.toNat=len→l=0),.slice (some ⟨b,off+l.toNat * n,none⟩) (h - l).toNat (len - l.toNat)):=rfl
def ptrO:Value→Option (Nat×Nat)
  | .pointer (some ⟨b,off,none⟩)=>some (b,off)
  | _=>none
theorem stp_slA {g':Option Nat} (len n:Nat) (x:X) (lo hi:Option X):stp P X₀ F w0 N ⟨d,.slA len n x lo hi,g',k⟩ U C H next=@bindG _ (chain C g') ⟨fun G=>@bindO _ ((rd U C G x).bind ptrO) ⟨fun q=>@bindO _ (rdB U C G 0 lo) ⟨fun l=>@bindO _ (rdB U C G len hi) ⟨fun h=>qend U C G d H next (sarV len n q l h)⟩⟩⟩⟩:=by
  rw [stp_quiet rfl rfl];simp only [bindG,qev,rdB_eq]
  cases rd U C (chain C g') x with
  | none=>rfl
  | some v=>cases v <;> first | rfl | (rename_i a;cases a <;> first | rfl | (rename_i a;obtain ⟨b,off,sp⟩:=a;cases sp <;> first | rfl | (simp only [ptrO,Option.bind_some,bindO];generalize rdB U C (chain C g') 0 lo=A;cases A <;> (generalize rdB U C (chain C g') _ hi=B;cases B <;> rfl))))
theorem binq_add {k:IntKind} {a b:Int}:binq .add (.int k a) (.int k b)=some (True,.int k (k.wrap (a+b))):=by simp [binq]
theorem binq_sub {k:IntKind} {a b:Int}:binq .sub (.int k a) (.int k b)=some (True,.int k (k.wrap (a - b))):=by simp [binq]
theorem binq_mul {k:IntKind} {a b:Int}:binq .mul (.int k a) (.int k b)=some (True,.int k (k.wrap (a * b))):=by simp [binq]
theorem binq_eql {k:IntKind} {a b:Int}:binq .eql (.int k a) (.int k b)=some (True,.bool (a==b)):=by simp [binq]
theorem binq_neq {k:IntKind} {a b:Int}:binq .neq (.int k a) (.int k b)=some (True,.bool (a != b)):=by simp [binq]
theorem binq_lss {k:IntKind} {a b:Int}:binq .lss (.int k a) (.int k b)=some (True,.bool (decide (a < b))):=by simp [binq]
theorem binq_leq {k:IntKind} {a b:Int}:binq .leq (.int k a) (.int k b)=some (True,.bool (decide (a≤b))):=by simp [binq]
theorem binq_gtr {k:IntKind} {a b:Int}:binq .gtr (.int k a) (.int k b)=some (True,.bool (decide (b < a))):=by simp [binq]
theorem binq_geq {k:IntKind} {a b:Int}:binq .geq (.int k a) (.int k b)=some (True,.bool (decide (b≤a))):=by simp [binq]
theorem binq_quo {k:IntKind} {a b:Int}:binq .quo (.int k a) (.int k b)=some (b≠0,.int k (k.wrap (a.tdiv b))):=by simp [binq]
theorem binq_rem {k:IntKind} {a b:Int}:binq .rem (.int k a) (.int k b)=some (b≠0,.int k (a.tmod b)):=by simp [binq]
theorem binq_and_u64 {a b:Int}:binq .and (.int .u64 a) (.int .u64 b)=some (True,.int .u64 (IntKind.u64.wrap ((BitVec.ofInt 64 a &&& BitVec.ofInt 64 b).toNat:Int))):=by simp [binq];rfl
theorem binq_or_u64 {a b:Int}:binq .or (.int .u64 a) (.int .u64 b)=some (True,.int .u64 (IntKind.u64.wrap ((BitVec.ofInt 64 a ||| BitVec.ofInt 64 b).toNat:Int))):=by simp [binq];rfl
theorem binq_shl_u64 {k':IntKind} {a b:Int}:binq .shl (.int .u64 a) (.int k' b)=some (0≤b,.int .u64 (IntKind.u64.wrap (a * 2 ^ (if b.toNat≤64 then b.toNat else 64)))):=by simp only [binq,← Nat.min_def];rfl
theorem binq_shr_u64 {k':IntKind} {a b:Int}:binq .shr (.int .u64 a) (.int k' b)=some (0≤b,.int .u64 (a.fdiv (2 ^ (if b.toNat≤64 then b.toNat else 64)))):=by simp only [binq,← Nat.min_def];rfl
theorem binq_and_i64 {a b:Int}:binq .and (.int .i64 a) (.int .i64 b)=some (True,.int .i64 (IntKind.i64.wrap ((BitVec.ofInt 64 a &&& BitVec.ofInt 64 b).toNat:Int))):=by simp [binq];rfl
theorem binq_or_i64 {a b:Int}:binq .or (.int .i64 a) (.int .i64 b)=some (True,.int .i64 (IntKind.i64.wrap ((BitVec.ofInt 64 a ||| BitVec.ofInt 64 b).toNat:Int))):=by simp [binq];rfl
theorem binq_shl_i64 {k':IntKind} {a b:Int}:binq .shl (.int .i64 a) (.int k' b)=some (0≤b,.int .i64 (IntKind.i64.wrap (a * 2 ^ (if b.toNat≤64 then b.toNat else 64)))):=by simp only [binq,← Nat.min_def];rfl
theorem binq_shr_i64 {k':IntKind} {a b:Int}:binq .shr (.int .i64 a) (.int k' b)=some (0≤b,.int .i64 (a.fdiv (2 ^ (if b.toNat≤64 then b.toNat else 64)))):=by simp only [binq,← Nat.min_def];rfl
theorem binq_and_u8 {a b:Int}:binq .and (.int .u8 a) (.int .u8 b)=some (True,.int .u8 (IntKind.u8.wrap ((BitVec.ofInt 8 a &&& BitVec.ofInt 8 b).toNat:Int))):=by simp [binq];rfl
theorem binq_or_u8 {a b:Int}:binq .or (.int .u8 a) (.int .u8 b)=some (True,.int .u8 (IntKind.u8.wrap ((BitVec.ofInt 8 a ||| BitVec.ofInt 8 b).toNat:Int))):=by simp [binq];rfl
theorem binq_shl_u8 {k':IntKind} {a b:Int}:binq .shl (.int .u8 a) (.int k' b)=some (0≤b,.int .u8 (IntKind.u8.wrap (a * 2 ^ (if b.toNat≤8 then b.toNat else 8)))):=by simp only [binq,← Nat.min_def];rfl
theorem binq_shr_u8 {k':IntKind} {a b:Int}:binq .shr (.int .u8 a) (.int k' b)=some (0≤b,.int .u8 (a.fdiv (2 ^ (if b.toNat≤8 then b.toNat else 8)))):=by simp only [binq,← Nat.min_def];rfl
theorem binq_sadd {a b:ByteArray}:binq .add (.string a) (.string b)=some (a.size+b.size≤9223372036854775807,.string (a++b)):=rfl
theorem binq_seql {a b:ByteArray}:binq .eql (.string a) (.string b)=some (True,.bool (a.data.toList==b.data.toList)):=rfl
theorem binq_sneq {a b:ByteArray}:binq .neq (.string a) (.string b)=some (True,.bool (!(a.data.toList==b.data.toList))):=rfl
theorem binq_slss {a b:ByteArray}:binq .lss (.string a) (.string b)=some (True,.bool (Op.bytesLess a.data.toList b.data.toList)):=rfl
theorem binq_sleq {a b:ByteArray}:binq .leq (.string a) (.string b)=some (True,.bool (Op.bytesLess a.data.toList b.data.toList||a.data.toList==b.data.toList)):=rfl
theorem binq_sgtr {a b:ByteArray}:binq .gtr (.string a) (.string b)=some (True,.bool (!(Op.bytesLess a.data.toList b.data.toList||a.data.toList==b.data.toList))):=rfl
theorem binq_sgeq {a b:ByteArray}:binq .geq (.string a) (.string b)=some (True,.bool (!Op.bytesLess a.data.toList b.data.toList)):=rfl
theorem pickO_of {p:Bool} {vx vy:Value}:pickO (.bool p) vx vy=some ((p=true→isB vx)∧(p=false→isB vy),.bool (bif p then asB vx else asB vy)):=rfl
theorem pickO_bb {p q r:Bool}:pickO (.bool p) (.bool q) (.bool r)=some (True,.bool (bif p then q else r)):=by simp [pickO,isB,asB]
theorem boolO_of {p:Bool}:boolO (some (.bool p))=some p:=rfl
theorem ptrO_of {b off:Nat}:ptrO (.pointer (some ⟨b,off,none⟩))=some (b,off):=rfl
theorem slO_of {b off len cap:Nat}:slO (some (.slice (some ⟨b,off,none⟩) len cap))=some (b,off,len,cap):=rfl
theorem strO_of {s:ByteArray}:strO (some (.string s))=some s.data.toList:=rfl
theorem rdB_none {G:List Nat} {dd:Int}:rdB U C G dd none=some dd:=rfl
theorem rdB_some {G:List Nat} {dd:Int} {x:X}:rdB U C G dd (some x)=(rd U C G x).bind bound:=rfl
theorem bound_of {kk:IntKind} {n:Int}:bound (.int kk n)=some n:=rfl
theorem cond_tt {p q:Bool}:(bif p then true else q)=(p||q):=by cases p <;> rfl
theorem cond_ff {p q:Bool}:(bif p then q else false)=(p&&q):=by cases p <;> rfl
theorem stp_call_q {f:Nat} {args:List X} {g:Option Nat}:stp P X₀ F w0 N ⟨d,.call f args,g,.q⟩ U C H next=@bindG _ (chain C g) ⟨fun G=>@bindO _ (rds U C G args) ⟨fun vs=>@CallQ (fun v=>owe U C G (PureV P (rdObj F H) f vs.toArray v)) ⟨fun v=>put d G v U C H next⟩⟩⟩:=by
  simp only [stp,bindG]
  cases rds U C (chain C g) args <;> rfl
theorem stp_call_e {f:Nat} {args:List X}:stp P X₀ F w0 N ⟨d,.call f args,none,.e⟩ U C H next=@bindO _ (rds U C [] args) ⟨fun vs=>@CallE P X₀ F w0 f vs.toArray H ⟨fun v H'=>put d [] v U C H' next⟩⟩:=by
  simp only [stp,chain]
  cases rds U C [] args <;> rfl
theorem stp_call_g {f:Nat} {args:List X}:stp P X₀ F w0 N ⟨d,.call f args,none,.g⟩ U C H next=@bindO _ (rds U C [] args) ⟨fun vs=>@CallN P X₀ F w0 f vs.toArray H ⟨fun v H'=>put d [] v U C H' next⟩⟩:=by
  simp only [stp,chain]
  cases rds U C [] args <;> rfl
theorem stp_callV_g {x:X} {args:List X}:stp P X₀ F w0 N ⟨d,.callV x args,none,.g⟩ U C H next=@bindO _ (rd U C [] x) ⟨fun fv=>@bindO _ (rds U C [] args) ⟨fun vs=>@CallNF P X₀ F w0 fv vs H ⟨fun v H'=>put d [] v U C H' next⟩⟩⟩:=by
  simp only [stp,chain]
  cases rd U C [] x <;> cases rds U C [] args <;> rfl
theorem stp_callV_q {x:X} {args:List X} {g:Option Nat}:stp P X₀ F w0 N ⟨d,.callV x args,g,.q⟩ U C H next=@bindG _ (chain C g) ⟨fun G=>@bindO _ (rd U C G x) ⟨fun fv=>@bindO _ (rds U C G args) ⟨fun vs=>@CallQ (fun v=>owe U C G (PureF P (rdObj F H) fv vs v)) ⟨fun v=>put d G v U C H next⟩⟩⟩⟩:=by
  simp only [stp,bindG]
  cases rd U C (chain C g) x <;> cases rds U C (chain C g) args <;> rfl
theorem stp_callV_e {x:X} {args:List X}:stp P X₀ F w0 N ⟨d,.callV x args,none,.e⟩ U C H next=@bindO _ (rd U C [] x) ⟨fun fv=>@bindO _ (rds U C [] args) ⟨fun vs=>@CallEF P X₀ F w0 fv vs H ⟨fun v H'=>put d [] v U C H' next⟩⟩⟩:=by
  simp only [stp,chain]
  cases rd U C [] x <;> cases rds U C [] args <;> rfl
theorem stp_alloc {T:Nat} {z:List Value}:stp P X₀ F w0 N ⟨d,.alloc T z,none,k⟩ U C H next=@NewB F H (.cells z.toArray T) ⟨fun b H'=>put d [] (.pointer (some ⟨b,0,none⟩)) U C H' next⟩:=by
  simp only [stp,chain];rfl
theorem stp_box {T:Nat} {x:X}:stp P X₀ F w0 N ⟨d,.box T x,none,k⟩ U C H next=@bindO _ (rd U C [] x) ⟨fun v=>@bindG _ (v.cells) ⟨fun cs=>@NewB F H (.cells cs T) ⟨fun b H'=>put d [] (.pointer (some ⟨b,0,none⟩)) U C H' next⟩⟩⟩:=by
  simp only [stp,chain]
  cases rd U C [] x <;> rfl
theorem stp_bslice {T len:Nat} {z:List Value} {ps:List (Nat×Nat×X)}:stp P X₀ F w0 N ⟨d,.bslice T len z ps,none,k⟩ U C H next=@bindO _ (fillL (rd U C []) z ps) ⟨fun p=>@conj p.1 ⟨@NewB F H (.cells p.2.toArray T) ⟨fun b H'=>put d [] (.slice (some ⟨b,0,none⟩) len len) U C H' next⟩⟩⟩:=by
  simp only [stp,chain]
  cases fillL (rd U C []) z ps <;> rfl
theorem stp_store {n:Nat} {ax x:X}:stp P X₀ F w0 N ⟨none,.store n ax x,none,k⟩ U C H next=@bindO _ (rd U C [] ax) ⟨fun pa=>@bindO _ (rd U C [] x) ⟨fun v=>@bindO _ (ptrO pa) ⟨fun q=>@bindG _ (v.cells) ⟨fun cs=>@conj (cs.size=n) ⟨@bindO _ (stCells F H q.1 q.2 cs.toList) ⟨fun H'=>next U C H'⟩⟩⟩⟩⟩⟩:=by
  simp only [stp,chain]
  cases rd U C [] ax with
  | none=>rfl
  | some pa=>
    cases rd U C [] x with
    | none=>cases pa <;> first | rfl | (rename_i a;cases a <;> first | rfl | (rename_i a;obtain ⟨b,off,sp⟩:=a;cases sp <;> rfl))
    | some v=>
      cases pa <;> first | rfl | (rename_i a;cases a <;> first | rfl | (rename_i a;obtain ⟨b,off,sp⟩:=a;cases sp <;> first | rfl | (simp only [bindO,bindG,conj,cnd,ptrO];cases stCells F H b off v.cells.toList <;> rfl)))
theorem stp_sbytes {T:Nat} {x:X}:stp P X₀ F w0 N ⟨d,.sbytes T x,none,k⟩ U C H next=@bindO _ (strO (rd U C [] x)) ⟨fun s=>∀ k,@NewB F H (.cells (byteCells s++List.replicate k (Value.int .u8 0)).toArray T (s.length+k,s.length+k+1)) ⟨fun b H'=>put d [] (.slice (some ⟨b,0,none⟩) s.length (s.length+k)) U C H' next⟩⟩:=by
  simp only [stp,chain]
  cases rd U C [] x with
  | none=>rfl
  | some v=>cases v <;> rfl
theorem stp_xcall {f:Nat} {args:List X} {g:Option Nat}:stp P X₀ F w0 N ⟨d,.xcall f args,g,k⟩ U C H next=@bindG _ (chain C g) ⟨fun G=>@bindO _ (rds U C G args) ⟨fun vs=>@CallQ (fun v=>owe U C G (semq P F H (callFunc f vs.toArray) (fun n=>n=.value v))) ⟨fun v=>put d G v U C H next⟩⟩⟩:=by
  simp only [stp,bindG]
  cases rds U C (chain C g) args <;> rfl
def EfL (F:Base) (H:Hp) (e:Ef) (vs:List Value) [k:Lk (Value→Hp→Prop)]:Prop:=efP F H e vs (shrK k.out)
theorem EfL.of {F:Base} {H:Hp} {e:Ef} {vs:List Value} {k:Value→Hp→Prop} (h:efP F H e vs (shrK k)):@EfL F H e vs ⟨k⟩:=h
theorem stp_ef {e:Ef} {xs:List X}:stp P X₀ F w0 N ⟨d,.ef e xs,none,k⟩ U C H next=@bindO _ (rds U C [] xs) ⟨fun vs=>@EfL F H e vs ⟨fun v H'=>put d [] v U C H' next⟩⟩:=by
  simp only [stp,chain]
  cases rds U C [] xs <;> rfl
theorem chain_none:chain C none=[]:=rfl
theorem rd_c {G:List Nat} {v:Value}:rd U C G (.c v)=some v:=rfl
theorem rd_t0 {G:List Nat} {n:Nat}:rd U [] G (.t n)=lkU U n:=rfl
def lkIf {α:Type} (b:Bool) (v:α) [r:Lk α]:α:=match b with
  | true=>v
  | false=>r.out
theorem lkIf_t {α:Type} {v r:α}:@lkIf α true v ⟨r⟩=v:=rfl
theorem lkIf_f {α:Type} {v r:α}:@lkIf α false v ⟨r⟩=r:=rfl
theorem lkIf_eq {α:Type} {s s':Nat} {v r:α}:(if s'=s then v else r)=@lkIf α (s'==s) v ⟨r⟩:=by
  by_cases h:s'=s
  · simp [h,lkIf]
  · have:(s'==s)=false:=by simpa using h
    simp [h,this,lkIf]
theorem lkU_cons {s s':Nat} {v:Option Value}:lkU ((s',v)::U) s=@lkIf _ (s'==s) v ⟨lkU U s⟩:=by simp only [lkU,lkIf_eq]
theorem lkU_nil {s:Nat}:lkU [] s=none:=rfl
theorem lkC_cons {s s':Nat} {v:List Nat×Value}:lkC ((s',v)::C) s=@lkIf _ (s'==s) (some v) ⟨lkC C s⟩:=by obtain ⟨G,v⟩:=v;simp only [lkC,lkIf_eq]
theorem lkC_nil {s:Nat}:lkC [] s=none:=rfl
theorem memG_cons {x l:Nat} {r:List Nat}:memG l (x::r)=@lkIf _ (x==l) true ⟨memG l r⟩:=by simp only [memG,lkIf_eq]
theorem memG_nil {l:Nat}:memG l []=false:=rfl
theorem freeG_cons {d l:Nat} {r:List Nat}:freeG d (l::r)=@lkIf _ (l / 2==d) false ⟨freeG d r⟩:=by simp only [freeG,lkIf_eq]
theorem freeG_nil {d:Nat}:freeG d []=true:=rfl
theorem cfree_cons {d s:Nat} {G:List Nat} {v:Value}:cfree d ((s,G,v)::C)=@lkIf _ (s==d) false ⟨freeG d G&&cfree d C⟩:=by simp only [cfree,lkIf_eq]
theorem cfree_nil {d:Nat}:cfree d []=true:=rfl
def rdC (G:List Nat) (n:Nat) (U:Fr):Option (List Nat×Value)→Option Value
  | some (G',v)=>if subG G' G then some v else none
  | none=>lkU U n
theorem rd_tc {G:List Nat} {n:Nat}:rd U C G (.t n)=rdC G n U (lkC C n):=by simp only [rd,rdC];cases lkC C n <;> rfl
theorem rdC_some {G G':List Nat} {n:Nat} {v:Value}:rdC G n U (some (G',v))=if subG G' G then some v else none:=rfl
theorem rdC_none {G:List Nat} {n:Nat}:rdC G n U none=lkU U n:=rfl
def rdsC (v:Option Value) (vs:Option (List Value)):Option (List Value):=match v,vs with
  | some v,some vs=>some (v::vs)
  | _,_=>none
theorem rds_cons {G:List Nat} {x:X} {r:List X}:rds U C G (x::r)=rdsC (rd U C G x) (rds U C G r):=by
  simp only [rds,rdsC];cases rd U C G x <;> cases rds U C G r <;> rfl
theorem rds_nil {G:List Nat}:rds U C G []=some []:=rfl
theorem rdsC_some {v:Value} {vs:List Value}:rdsC (some v) (some vs)=some (v::vs):=rfl
theorem chain_some {l:Nat}:chain C (some l)=l::(((lkC C (l / 2)).map (·.1)).getD []):=by simp only [chain];cases lkC C (l / 2) <;> rfl
theorem resL_t {n:Nat} {r:List RV}:resL F H U (.t n::r)=rdsC (lkU U n) (resL F H U r):=by
  simp only [resL,rdsC];cases lkU U n <;> cases resL F H U r <;> rfl
theorem resL_nil:resL F H U []=some []:=rfl
def aggO (g:Bool):Option (List Value)→Option Value
  | some cs=>if g then some (.agg cs.toArray) else (match cs with | [v]=>some v | _=>none)
  | none=>none
theorem aggO_t {cs:List Value}:aggO true (some cs)=some (.agg cs.toArray):=rfl
theorem aggO_f {v:Value}:aggO false (some [v])=some v:=rfl
def cellO (F:Base) (H:Hp) (n:Nat) (g:Bool):Option Value→Option Value
  | some (.pointer (some ⟨b,off,none⟩))=>aggO g (cellsAt F H b off n)
  | _=>none
theorem cellO_of {n b off:Nat} {g:Bool}:cellO F H n g (some (.pointer (some ⟨b,off,none⟩)))=aggO g (cellsAt F H b off n):=rfl
theorem resL_cell {a n:Nat} {g:Bool} {r:List RV}:resL F H U (.cell a n g::r)=rdsC (cellO F H n g (lkU U a)) (resL F H U r):=by
  simp only [resL]
  cases hr:resL F H U r with
  | none=>
    have e:∀ v,rdsC v none=none:=fun v=>by cases v <;> rfl
    rw [e]
    split <;> simp_all
  | some l=>
    cases lkU U a with
    | none=>rfl
    | some v=>
      cases v <;> first | rfl | (rename_i p;cases p <;> first | rfl | (rename_i p;obtain ⟨b,off,sp⟩:=p;cases sp <;> first | rfl | (simp only [cellO];cases cellsAt F H b off n <;> first | rfl | (rename_i cs;cases g <;> first | rfl | (match cs with | []=>rfl | [v]=>rfl | _::_::_=>rfl)))))
def fillC (cells:List Value) (off n:Nat) (v:Option Value) [k:Lk (List Value→Option (Prop×List Value))]:Option (Prop×List Value):=match v with
  | some v=>(k.out (cells.take off++v.cells.toList++cells.drop (off+n))).map fun p=>((v.cells.size=n∧off+n≤cells.length)∧p.1,p.2)
  | none=>none
theorem fillL_cons {r:X→Option Value} {cells:List Value} {off n:Nat} {x:X} {rest:List (Nat×Nat×X)}:fillL r cells ((off,n,x)::rest)=@fillC cells off n (r x) ⟨fun cs=>fillL r cs rest⟩:=by
  simp only [fillL,fillC];cases r x <;> rfl
theorem fillL_nil {r:X→Option Value} {cells:List Value}:fillL r cells []=some (True,cells):=rfl
def fillD (ob:Prop) (p:Option (Prop×List Value)):Option (Prop×List Value):=p.map fun p=>(ob∧p.1,p.2)
theorem fillD_of {ob ob':Prop} {l:List Value}:fillD ob (some (ob',l))=some (ob∧ob',l):=rfl
theorem fillC_agg {cells:List Value} {off n:Nat} {l:List Value} {k:List Value→Option (Prop×List Value)}:@fillC cells off n (some (.agg l.toArray)) ⟨k⟩=fillD (l.length=n∧off+n≤cells.length) (k (cells.take off++l++cells.drop (off+n))):=by simp [fillC,fillD,Value.cells]
theorem fillC_none {cells:List Value} {off n:Nat} {k:Lk (List Value→Option (Prop×List Value))}:@fillC cells off n none k=none:=rfl
theorem fillC_one {cells:List Value} {off n:Nat} {v:Value} {k:List Value→Option (Prop×List Value)} (h:oneCell v=true):@fillC cells off n (some v) ⟨k⟩=fillD (1=n∧off+n≤cells.length) (k (cells.take off++[v]++cells.drop (off+n))):=by
  cases v <;> first | (simp [oneCell] at h;done) | simp [fillC,fillD,Value.cells]
theorem fillC_int {cells:List Value} {off n:Nat} {k:List Value→Option (Prop×List Value)} {kk:IntKind} {i:Int}:@fillC cells off n (some (.int kk i)) ⟨k⟩=fillD (1=n∧off+n≤cells.length) (k (cells.take off++[.int kk i]++cells.drop (off+n))):=fillC_one rfl
theorem fillC_bool {cells:List Value} {off n:Nat} {k:List Value→Option (Prop×List Value)} {b:Bool}:@fillC cells off n (some (.bool b)) ⟨k⟩=fillD (1=n∧off+n≤cells.length) (k (cells.take off++[.bool b]++cells.drop (off+n))):=fillC_one rfl
theorem fillC_string {cells:List Value} {off n:Nat} {k:List Value→Option (Prop×List Value)} {b:ByteArray}:@fillC cells off n (some (.string b)) ⟨k⟩=fillD (1=n∧off+n≤cells.length) (k (cells.take off++[.string b]++cells.drop (off+n))):=fillC_one rfl
theorem fillC_slice {cells:List Value} {off n:Nat} {k:List Value→Option (Prop×List Value)} {a:Option Addr} {m c:Nat}:@fillC cells off n (some (.slice a m c)) ⟨k⟩=fillD (1=n∧off+n≤cells.length) (k (cells.take off++[.slice a m c]++cells.drop (off+n))):=fillC_one rfl
theorem fillC_pointer {cells:List Value} {off n:Nat} {k:List Value→Option (Prop×List Value)} {a:Option Addr}:@fillC cells off n (some (.pointer a)) ⟨k⟩=fillD (1=n∧off+n≤cells.length) (k (cells.take off++[.pointer a]++cells.drop (off+n))):=fillC_one rfl
theorem fillC_func {cells:List Value} {off n:Nat} {k:List Value→Option (Prop×List Value)} {f:Fn} {x y:Array Value}:@fillC cells off n (some (.func f x y)) ⟨k⟩=fillD (1=n∧off+n≤cells.length) (k (cells.take off++[.func f x y]++cells.drop (off+n))):=fillC_one rfl
theorem fillC_map {cells:List Value} {off n:Nat} {k:List Value→Option (Prop×List Value)} {r:Option Nat}:@fillC cells off n (some (.map r)) ⟨k⟩=fillD (1=n∧off+n≤cells.length) (k (cells.take off++[.map r]++cells.drop (off+n))):=fillC_one rfl
theorem lk_eq {b:Nat} {o:Obj}:lk ((b,o)::H) b=some o:=by simp [lk]
theorem lk_ne {b b':Nat} {o:Obj} (h:b'≠b):lk ((b',o)::H) b=lk H b:=by simp [lk,h]
theorem upd_eq {b:Nat} {o o':Obj}:upd ((b,o)::H) b o'=(b,o')::upd H b o':=by simp [upd]
theorem upd_ne {b b':Nat} {o o':Obj} (h:b'≠b):upd ((b',o)::H) b o'=(b',o)::upd H b o':=by simp [upd,h]
theorem upd_nil {b:Nat} {o:Obj}:upd [] b o=[]:=rfl
theorem rdObj_own {b:Nat} (h:F b=none):rdObj F H b=lk H b:=by simp [rdObj,h]
theorem rdObj_base {b:Nat} {o:Obj} (h:F b=some o):rdObj F H b=some o:=by simp [rdObj,h]
def cellsO (o:Option Obj) (off n:Nat):Option (List Value):=match o with
  | some (.cells c _ _)=>if off+n≤c.size then some ((c.toList.drop off).take n) else none
  | _=>none
theorem cellsAt_O {b off n:Nat}:cellsAt F H b off n=cellsO (rdObj F H b) off n:=by
  unfold cellsAt cellsO;cases rdObj F H b <;> rfl
theorem cellsO_of {off n:Nat} {cs:List Value} {T:Nat} {fz:Nat×Nat}:cellsO (some (.cells cs.toArray T fz)) off n=if off+n≤cs.length then some ((cs.drop off).take n) else none:=by
  simp [cellsO]
def stO (o:Option Obj) (off:Nat) (l:List Value):Option Obj:=match o with
  | some (.cells c e fz)=>if (fz.2≤fz.1&&l.all oneCell&&!l.isEmpty&&decide (off+l.length≤c.size))=true then some (.cells (c.toList.take off++l++c.toList.drop (off+l.length)).toArray e fz) else none
  | _=>none
theorem stCells_O {b off:Nat} {l:List Value} (hF:F b=none):stCells F H b off l=(stO (lk H b) off l).map (upd H b):=by
  unfold stCells stO;rw [hF]
  cases lk H b with
  | none=>rfl
  | some o=>cases o <;> first | rfl | (simp only;split <;> simp_all)
theorem stO_of {off:Nat} {l cs:List Value} {T:Nat} :
    stO (some (.cells cs.toArray T (0,0))) off l=if (l.all oneCell&&!l.isEmpty&&decide (off+l.length≤cs.length))=true then some (.cells (cs.take off++l++cs.drop (off+l.length)).toArray T (0,0)) else none:=by
  simp [stO]
end
end Go.Eng
