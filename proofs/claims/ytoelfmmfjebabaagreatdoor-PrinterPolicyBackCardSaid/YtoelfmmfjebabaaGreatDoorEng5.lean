/- The engine, part 3: compact operations over partial symbolic frames. -/
import Derived.Test.YtoelfmmfjebabaaGreatDoorEng2
namespace Go.Eng
open Go
inductive X
  | t (n:Nat)
  | c (v:Value)
def X.of:Operand→X
  | .tmp n=>.t n
  | .const v=>.c v
  | .global g=>.c (.pointer (some ⟨g,0,none⟩))
  | .func f=>.c (.func (.func f) #[] #[])
def keyD:TypeDesc→Bool
  | .string=>true
  | .int _=>true
  | _=>false
inductive Ef
  | app (n B T:Nat)
  | mkSl (n B T:Nat) (z:List Value)
  | mkMap
  | mapGet (d:TypeDesc) (z:Value) (ok:Bool)
  | mapSet (d:TypeDesc)
  | mapLen
inductive S
  | mv (x:X)
  | pick (c x y:X)
  | bin (op:BinOp) (x y:X)
  | beq (neg:Bool) (x y:X)
  | ueq (neg:Bool) (x y:X)
  | un (op:UnOp) (x:X)
  | conv (k:IntKind) (x:X)
  | add (n:Nat) (x:X)
  | fld (off n:Nat) (agg:Bool) (x:X)
  | ixA (len esz:Nat) (x i:X)
  | ixS (esz:Nat) (x i:X)
  | ixStr (x i:X)
  | ixAgg (len esz:Nat) (agg:Bool) (x i:X)
  | ld (n:Nat) (agg:Bool) (x:X)
  | ext (x:X) (i:Nat)
  | lenStr (x:X)
  | lenSl (x:X)
  | mkF (fn:Fn) (first captured:List X)
  | build (zero:List Value) (parts:List (Nat×Nat×X))
  | slStr (x:X) (lo hi:Option X)
  | slS (esz:Nat) (x:X) (lo hi:Option X)
  | slA (len esz:Nat) (x:X) (lo hi:Option X)
  | mx (x y:X)
  | mn (x y:X)
  | bstr (x:X)
  | call (f:Nat) (args:List X)
  | callV (x:X) (args:List X)
  | alloc (T:Nat) (zero:List Value)
  | box (T:Nat) (x:X)
  | store (n:Nat) (a x:X)
  | bslice (T len:Nat) (zero:List Value) (parts:List (Nat×Nat×X))
  | sbytes (T:Nat) (x:X)
  | xcall (f:Nat) (args:List X)
  | nck (x:X)
  | ef (e:Ef) (xs:List X)
  | raw (o:Oper)
structure SO where
  dst:Option Nat
  op:S
  g:Option Nat
  k:Kind
abbrev Fr:=List (Nat×Option Value)
abbrev Cf:=List (Nat×List Nat×Value)
def lkU:Fr→Nat→Option Value
  | [],_=>none
  | (s',v)::r,s=>if s'=s then v else lkU r s
def lkC:Cf→Nat→Option (List Nat×Value)
  | [],_=>none
  | (s',G,v)::r,s=>if s'=s then some (G,v) else lkC r s
def memG (l:Nat):List Nat→Bool
  | []=>false
  | x::r=>if x=l then true else memG l r
def subG:List Nat→List Nat→Bool
  | [],_=>true
  | l::r,G=>memG l G&&subG r G
def freeG (d:Nat):List Nat→Bool
  | []=>true
  | l::r=>if l / 2=d then false else freeG d r
def cfree (d:Nat):Cf→Bool
  | []=>true
  | (s,G,_)::r=>if s=d then false else freeG d G&&cfree d r
def rd (U:Fr) (C:Cf) (G:List Nat):X→Option Value
  | .c v=>some v
  | .t n=>match lkC C n with
    | some (G',v)=>if subG G' G then some v else none
    | none=>lkU U n
def rds (U:Fr) (C:Cf) (G:List Nat):List X→Option (List Value)
  | []=>some []
  | x :: r=>match rd U C G x with
    | some v=>match rds U C G r with
      | some vs=>some (v::vs)
      | none=>none
    | none=>none
def chain (C:Cf):Option Nat→List Nat
  | none=>[]
  | some l=>l::(match lkC C (l / 2) with | some (G,_)=>G | none=>[])
def isPar (l:Nat):Bool:=l % 2==1
def Wf (U:Fr) (C:Cf) (G:List Nat):List Nat→Prop
  | []=>True
  | l::r=>(match rd U C G (.t (l / 2)) with
    | some (.bool p)=>p=isPar l
    | _=>True)∧Wf U C G r
def om (a:Act) (G:List Nat):Prop:=∀ l∈G,a.tmps.getD (l / 2) undef=.bool (isPar l)
structure FOk (D:List Deferred) (N:Nat) (U:Fr) (C:Cf) (a:Act):Prop where
  defers:a.defers=D
  size:a.tmps.size=N
  u:∀ s v,lkU U s=some v→a.tmps.getD s undef=v
  c:∀ s G v,lkC C s=some (G,v)→(om a G∧a.tmps.getD s undef=v)∨(¬ om a G∧a.tmps.getD s undef=undef)
def xv (a:Act):X→Value
  | .t n=>a.tmps.getD n undef
  | .c v=>v
theorem xv_of (a:Act) (x:Operand):xv a (X.of x)=a.eval x:=by cases x <;> rfl
theorem memG_spec {l:Nat} {G:List Nat} (h:memG l G=true):l∈G:=by
  induction G with
  | nil=>simp [memG] at h
  | cons x r ih=>
    simp only [memG] at h
    split at h
    · rename_i e;subst e;simp
    · exact List.mem_cons_of_mem _ (ih h)
theorem om_sub {a:Act} {G' G:List Nat} (h:subG G' G=true) (ho:om a G):om a G':=by
  induction G' with
  | nil=>intro l hl;cases hl
  | cons x r ih=>
    simp only [subG,Bool.and_eq_true] at h
    intro l hl
    rcases List.mem_cons.1 hl with e | hl
    · subst e;exact ho _ (memG_spec h.1)
    · exact ih h.2 l hl
theorem FOk.rd {D:List Deferred} {N:Nat} {U:Fr} {C:Cf} {a:Act} (h:FOk D N U C a) {G:List Nat} (ho:om a G) {x:X} {v:Value} (hr:rd U C G x=some v):xv a x=v:=by
  cases x with
  | c v'=>simp only [Eng.rd,Option.some.injEq] at hr;exact hr
  | t n =>
    simp only [Eng.rd] at hr
    split at hr
    · rename_i G' v' hl
      split at hr
      · rename_i hs
        simp only [Option.some.injEq] at hr
        subst hr
        rcases h.c _ _ _ hl with h1 | h1
        · exact h1.2
        · exact (h1.1 (om_sub hs ho)).elim
      · cases hr
    · exact h.u _ _ hr
theorem FOk.rds {D:List Deferred} {N:Nat} {U:Fr} {C:Cf} {a:Act} (h:FOk D N U C a) {G:List Nat} (ho:om a G):∀ {xs:List X} {vs:List Value},rds U C G xs=some vs→xs.map (xv a)=vs
  | [],vs,hr=>by simp only [Eng.rds,Option.some.injEq] at hr;subst hr;rfl
  | x :: r,vs,hr=>by
    simp only [Eng.rds] at hr
    split at hr
    · rename_i v hv
      split at hr
      · rename_i vs' hvs
        simp only [Option.some.injEq] at hr
        subst hr
        rw [List.map_cons,h.rd ho hv,h.rds ho hvs]
      · cases hr
    · cases hr
theorem FOk.wf {D:List Deferred} {N:Nat} {U:Fr} {C:Cf} {a:Act} (h:FOk D N U C a) {G:List Nat} (ho:om a G):∀ {G':List Nat},om a G'→Wf U C G G'
  | [],_=>trivial
  | l :: r,ho'=>by
    refine ⟨?_,h.wf ho fun x hx=>ho' x (List.mem_cons_of_mem _ hx)⟩
    split
    · rename_i p hp
      have h1:=h.rd ho hp
      have h2:=ho' l (by simp)
      simp only [xv] at h1
      rw [h1] at h2
      simpa using h2
    · trivial
theorem getD_put {a:Act} {d s:Nat} {v:Value} (hd:d < a.tmps.size):(a.put (some d) v).tmps.getD s undef=if d=s then v else a.tmps.getD s undef:=by
  simp only [Act.put,Array.getD_eq_getD_getElem?]
  split
  · rename_i e;subst e;simp [hd]
  · rename_i e;rw [Array.getElem?_setIfInBounds_ne e]
theorem freeG_spec {d:Nat} {G:List Nat} (h:freeG d G=true):∀ l∈G,l / 2≠d:=by
  induction G with
  | nil=>intro l hl;cases hl
  | cons x r ih=>
    simp only [freeG] at h
    split at h
    · cases h
    · rename_i hne
      intro l hl
      rcases List.mem_cons.1 hl with e | hl
      · subst e;exact hne
      · exact ih h l hl
theorem cfree_spec {d:Nat} {C:Cf} (h:cfree d C=true):∀ s G v,lkC C s=some (G,v)→s≠d∧freeG d G=true:=by
  induction C with
  | nil=>intro s G v hl;cases hl
  | cons x r ih=>
    obtain ⟨s',G',v'⟩:=x
    simp only [cfree] at h
    split at h
    · cases h
    · rename_i hne
      simp only [Bool.and_eq_true] at h
      intro s G v hl
      simp only [lkC] at hl
      split at hl
      · rename_i e;subst e;simp only [Option.some.injEq,Prod.mk.injEq] at hl;obtain ⟨rfl,rfl⟩:=hl;exact ⟨hne,h.1⟩
      · exact ih h.2 s G v hl
theorem om_put {a:Act} {d:Nat} {v:Value} {G:List Nat} (hd:d < a.tmps.size) (hf:freeG d G=true):om (a.put (some d) v) G↔om a G:=by
  unfold om
  have:∀ l∈G,(a.put (some d) v).tmps.getD (l / 2) undef=a.tmps.getD (l / 2) undef:=fun l hl=>by
    rw [getD_put hd,if_neg (fun e=>freeG_spec hf l hl e.symm)]
  constructor
  · intro h l hl;rw [← this l hl];exact h l hl
  · intro h l hl;rw [this l hl];exact h l hl
def wr (dst:Option Nat) (G:List Nat) (v:Value) (U:Fr) (C:Cf) (next:Fr→Cf→Prop):Prop:=match dst with
  | none=>next U C
  | some d=>cfree d C=true∧(match G with
    | []=>next ((d,some v)::U) C
    | _::_=>freeG d G=true∧next ((d,none)::U) ((d,G,v)::C))
theorem FOk.put_u {D:List Deferred} {N:Nat} {U:Fr} {C:Cf} {a:Act} (h:FOk D N U C a) {d:Nat} (hd:d < N) (hc:cfree d C=true) (v:Value):FOk D N ((d,some v)::U) C (a.put (some d) v) where
  defers:=h.defers
  size:=by simp [Act.put,h.size]
  u s v' hl:=by
    rw [getD_put (h.size ▸ hd)]
    simp only [lkU] at hl
    split at hl
    · rename_i e;rw [if_pos e];simpa using hl
    · rename_i e;rw [if_neg e];exact h.u s v' hl
  c s G v' hl:=by
    obtain ⟨h1,h2⟩:=cfree_spec hc s G v' hl
    rw [om_put (h.size ▸ hd) h2,getD_put (h.size ▸ hd),if_neg (fun e=>h1 e.symm)]
    exact h.c s G v' hl
theorem FOk.put_c {D:List Deferred} {N:Nat} {U:Fr} {C:Cf} {a:Act} (h:FOk D N U C a) {d:Nat} (hd:d < N) (hc:cfree d C=true) {G:List Nat} (hG:freeG d G=true) {v u:Value}
    (hv:(om a G∧u=v)∨(¬ om a G∧u=undef)):FOk D N ((d,none)::U) ((d,G,v)::C) (a.put (some d) u) where
  defers:=h.defers
  size:=by simp [Act.put,h.size]
  u s v' hl:=by
    rw [getD_put (h.size ▸ hd)]
    simp only [lkU] at hl
    split at hl
    · cases hl
    · rename_i e;rw [if_neg e];exact h.u s v' hl
  c s G' v' hl:=by
    simp only [lkC] at hl
    split at hl
    · rename_i e
      subst e
      simp only [Option.some.injEq,Prod.mk.injEq] at hl
      obtain ⟨rfl,rfl⟩:=hl
      rw [om_put (h.size ▸ hd) hG,getD_put (h.size ▸ hd),if_pos rfl]
      exact hv
    · rename_i e
      obtain ⟨h1,h2⟩:=cfree_spec hc s G' v' hl
      rw [om_put (h.size ▸ hd) h2,getD_put (h.size ▸ hd),if_neg e]
      exact h.c s G' v' hl
theorem FOk.settle {D:List Deferred} {N:Nat} {U:Fr} {C:Cf} {a:Act} (h:FOk D N U C a):FOk D N U [] a:=⟨h.defers,h.size,h.u,fun _ _ _ hl=>by cases hl⟩
def isB:Value→Prop
  | .bool _=>True
  | _=>False
def asB:Value→Bool
  | .bool b=>b
  | _=>false
theorem isB_asB {v:Value} (h:isB v):v=.bool (asB v):=by cases v <;> simp_all [isB,asB]
def bs (l:List UInt8):ByteArray:=⟨⟨l⟩⟩
def binq (op:BinOp) (x y:Value):Option (Prop×Value):=
  match op,x,y with
  | .shl,.int k a,.int _ b=>some (0≤b,.int k (k.wrap (a * 2 ^ (min b.toNat k.bits))))
  | .shr,.int k a,.int _ b=>some (0≤b,.int k (a.fdiv (2 ^ (min b.toNat k.bits))))
  | .add,.int k a,.int k' b=>some (k=k',.int k (k.wrap (a+b)))
  | .sub,.int k a,.int k' b=>some (k=k',.int k (k.wrap (a - b)))
  | .mul,.int k a,.int k' b=>some (k=k',.int k (k.wrap (a * b)))
  | .quo,.int k a,.int k' b=>some (k=k'∧b≠0,.int k (k.wrap (a.tdiv b)))
  | .rem,.int k a,.int k' b=>some (k=k'∧b≠0,.int k (a.tmod b))
  | .and,.int k a,.int k' b=>some (k=k',.int k (k.wrap (BitVec.ofInt k.bits a &&& BitVec.ofInt k.bits b).toNat))
  | .or,.int k a,.int k' b=>some (k=k',.int k (k.wrap (BitVec.ofInt k.bits a ||| BitVec.ofInt k.bits b).toNat))
  | .eql,.int k a,.int k' b=>some (k=k',.bool (a==b))
  | .neq,.int k a,.int k' b=>some (k=k',.bool (a != b))
  | .lss,.int k a,.int k' b=>some (k=k',.bool (decide (a < b)))
  | .leq,.int k a,.int k' b=>some (k=k',.bool (decide (a≤b)))
  | .gtr,.int k a,.int k' b=>some (k=k',.bool (decide (b < a)))
  | .geq,.int k a,.int k' b=>some (k=k',.bool (decide (b≤a)))
  | .add,.string a,.string b=>some (a.size+b.size≤9223372036854775807,.string (a++b))
  | .eql,.string a,.string b=>some (True,.bool (a.data.toList==b.data.toList))
  | .neq,.string a,.string b=>some (True,.bool (!(a.data.toList==b.data.toList)))
  | .lss,.string a,.string b=>some (True,.bool (Op.bytesLess a.data.toList b.data.toList))
  | .leq,.string a,.string b=>some (True,.bool (Op.bytesLess a.data.toList b.data.toList||a.data.toList==b.data.toList))
  | .gtr,.string a,.string b=>some (True,.bool (!(Op.bytesLess a.data.toList b.data.toList||a.data.toList==b.data.toList)))
  | .geq,.string a,.string b=>some (True,.bool (!Op.bytesLess a.data.toList b.data.toList))
  | .eql,_,_=>some (False,.bool false)
  | _,_,_=>none
def unq (op:UnOp) (x:Value):Option Value:=
  match op,x with
  | .neg,.int k a=>some (.int k (k.wrap (0 - a)))
  | .not,.bool b=>some (.bool !b)
  | _,_=>none
theorem toList_eq (a:ByteArray):a.toList=a.data.toList:=ByteArray.toList_eq a
end Go.Eng
namespace Go.Eng
open Go
def aggB (P:Program) (t:TypeId):Option Bool:=match P.underlying t with
  | some (.struct _)=>some true
  | some (.array _ _)=>some true
  | some _=>some false
  | none=>none
def szO (P:Program) (t:TypeId):Option Nat:=(P.info? t).map (·.size)
def zeroO (P:Program) (t:TypeId):Option Value:=(P.info? t).bind (·.zero)
def fieldO (P:Program) (s:TypeId) (i:Nat):Option (Nat×Nat×TypeId):=match P.underlying s with
  | some (.struct fs)=>match fs[i]? with
    | some f=>match szO P f.type with
      | some 0=>none
      | some n=>some (f.offset,n,f.type)
      | none=>none
    | none=>none
  | _=>none
def placesO (P:Program) (t:TypeId):Option (Nat→Option (Nat×Nat)):=match P.underlying t with
  | some (.struct fs)=>match fs.toList.mapM (fun f=>(szO P f.type).map (fun n=>(f.offset,n))) with
    | some l=>some (fun i=>l[i]?)
    | none=>none
  | some (.array _ e)=>(szO P e).map fun n=>fun i=>some (i * n,n)
  | _=>none
def partsO (pl:Nat→Option (Nat×Nat)) (ps:List (Nat×Operand)):Option (List (Nat×Nat×X)):=
  ps.mapM fun p=>(pl p.1).map fun q=>(q.1,q.2,X.of p.2)
def intD:TypeDesc→Bool
  | .int _=>true
  | _=>false
def appT (P:Program) (c:Call):Option (Nat×Nat×Nat):=match c.args.toList,c.argTypes.toList with
  | [_, _],[t,t2]=>match P.underlying t,P.underlying t2 with
    | some (.slice e),some d=>match P.info? e with
      | some i=>match i.zero with
        | some z=>if i.size==0||i.bytes==0||z.cells.size != i.size||intD d then none else some (i.size,i.bytes,e)
        | none=>none
      | none=>none
    | _,_=>none
  | _,_=>none
def mkT (P:Program) (t:Nat):Option (Nat×Nat×Nat×List Value):=match P.underlying t with
  | some (.slice e)=>match P.info? e with
    | some i=>match i.zero with
      | some z=>if i.size==0||i.bytes==0||z.cells.size != i.size then none else some (i.size,i.bytes,e,z.cells.toList)
      | none=>none
    | none=>none
  | _=>none
def strT (P:Program) (t:Nat):Bool:=match P.underlying t with
  | some .string=>true
  | _=>false
def uidT (P:Program) (t:Nat):Bool:=match P.underlying t with
  | some (.struct fs)=>match fs.toList with
    | [f, g] => !(f.name == "_") && !(g.name == "_") && f.offset == 0 && g.offset == 1 && strT P f.type && strT P g.type && szO P f.type == some 1 && szO P g.type == some 1 && !P.stoodInHeld t && !P.eqGuardType P.depth t
    | _=>false
  | _=>false
def low (P:Program) (o:Oper):Option S:=
  match o.op with
  | .move x | .assign x=>some (.mv (X.of x))
  | .pick c a b=>some (.pick (X.of c) (X.of a) (X.of b))
  | .binOp op t x y _=>match op with
    | .eql | .neq=>match P.underlying t with
      | some .bool=>some (.beq (op==.neq) (X.of x) (X.of y))
      | some (.int _)=>some (.bin op (X.of x) (X.of y))
      | some .string=>some (.bin op (X.of x) (X.of y))
      | _=>if uidT P t then some (.ueq (op==.neq) (X.of x) (X.of y)) else some (.raw o)
    | _=>some (.bin op (X.of x) (X.of y))
  | .unOp op _ x=>some (.un op (X.of x))
  | .convert src dst x=>match P.underlying src,P.underlying dst with
    | some (.int _),some (.int k)=>some (.conv k (X.of x))
    | some (.slice e),some .string=>match P.underlying e with
      | some (.int .u8)=>some (.bstr (X.of x))
      | _=>some (.raw o)
    | some .string,some (.slice e)=>match P.underlying e with
      | some (.int .u8)=>some (.sbytes e (X.of x))
      | _=>some (.raw o)
    | _,_=>some (.raw o)
  | .fieldAddr s x i=>match fieldO P s i with
    | some (off,_,_)=>some (.add off (X.of x))
    | none=>none
  | .field s x i=>match fieldO P s i with
    | some (off,n,t)=>(aggB P t).map fun g=>.fld off n g (X.of x)
    | none=>none
  | .indexAddr t x i=>match P.underlying t with
    | some (.array len e)=>(szO P e).map fun n=>.ixA len n (X.of x) (X.of i)
    | some (.slice e)=>(szO P e).map fun n=>.ixS n (X.of x) (X.of i)
    | _=>none
  | .index t x i=>match P.underlying t with
    | some .string=>some (.ixStr (X.of x) (X.of i))
    | some (.array len e)=>match szO P e,aggB P e with
      | some n,some g=>some (.ixAgg len n g (X.of x) (X.of i))
      | _,_=>none
    | _=>none
  | .load t x=>match szO P t,aggB P t with
    | some n,some g=>some (.ld n g (X.of x))
    | _,_=>none
  | .extract x i=>some (.ext (X.of x) i)
  | .call c=>match c.callee with
    | .builtin .len=>match c.args.toList,c.argTypes.toList with
      | [x],[t]=>match P.underlying t with
        | some .string=>some (.lenStr (X.of x))
        | some (.slice _)=>some (.lenSl (X.of x))
        | some (.map _ _)=>some (.ef .mapLen [X.of x])
        | _=>none
      | _,_=>none
    | .builtin .max=>match c.args.toList with
      | [x,y]=>some (.mx (X.of x) (X.of y))
      | _=>none
    | .builtin .min=>match c.args.toList with
      | [x,y]=>some (.mn (X.of x) (X.of y))
      | _=>none
    | .builtin .append=>match appT P c with
      | some (n,B,T)=>some (.ef (.app n B T) (c.args.toList.map X.of))
      | none=>some (.raw o)
    | .builtin _=>some (.raw o)
    | .value (.func f)=>match P.funcs[f]? with
      | some fn => if fn.body.isSome && !(fn.name == "runtime.NumGoroutine") then some (.call f (c.args.toList.map X.of)) else some (.xcall f (c.args.toList.map X.of))
      | none=>none
    | .value x=>some (.callV (X.of x) (c.args.toList.map X.of))
    | _=>none
  | .makeFunc fn first captured=>some (.mkF fn (first.toList.map X.of) (captured.toList.map X.of))
  | .build t ps=>match placesO P t,zeroO P t with
    | some pl,some z=>(partsO pl ps.toList).map fun l=>.build z.cells.toList l
    | _,_=>none
  | .slice t x lo hi none=>match P.underlying t with
    | some .string=>some (.slStr (X.of x) (lo.map X.of) (hi.map X.of))
    | some (.slice e)=>(szO P e).map fun n=>.slS n (X.of x) (lo.map X.of) (hi.map X.of)
    | some (.array len e)=>(szO P e).map fun n=>.slA len n (X.of x) (lo.map X.of) (hi.map X.of)
    | _=>none
  | .nilCheck x=>some (.nck (X.of x))
  | .makeSlice t l c=>match mkT P t with
    | some (n,B,T,z)=>some (.ef (.mkSl n B T z) [X.of l,X.of c])
    | none=>some (.raw o)
  | .makeMap _ none=>some (.ef .mkMap [])
  | .lookup t m k ok=>match P.underlying t with
    | some (.map key elem)=>match P.underlying key,zeroO P elem with
      | some d,some z=>if keyD d then some (.ef (.mapGet d z ok) [X.of m,X.of k]) else some (.raw o)
      | _,_=>some (.raw o)
    | _=>some (.raw o)
  | .mapUpdate t m k v=>match P.underlying t with
    | some (.map key _)=>match P.underlying key with
      | some d=>if keyD d then some (.ef (.mapSet d) [X.of m,X.of k,X.of v]) else some (.raw o)
      | none=>some (.raw o)
    | _=>some (.raw o)
  | .insert t m k v=>match P.underlying t with
    | some (.map key _)=>match P.underlying key with
      | some d=>if keyD d then some (.ef (.mapSet d) [X.of m,X.of k,X.of v]) else some (.raw o)
      | none=>some (.raw o)
    | _=>some (.raw o)
  | .alloc t=>(zeroO P t).map fun z=>.alloc t z.cells.toList
  | .box t x=>some (.box t (X.of x))
  | .store t a x=>(szO P t).map fun n=>.store n (X.of a) (X.of x)
  | .buildSlice t len ps=>match P.underlying t with
    | some (.slice e)=>match szO P e,zeroO P e with
      | some n,some z=>if n=0||len=0||len * n > 1000 then none else
          (partsO (fun i=>some (i * n,n)) ps.toList).map fun l=>.bslice e len ((List.range (len * n)).map (fun i=>z.cells[i % z.cells.size]!)) l
      | _,_=>none
    | _=>none
  | _=>some (.raw o)
def bound (v:Value):Option Int:=match v with | .int _ n=>some n | _=>none
def rdO (r:X→Option Value) (d:Int):Option X→Option Int
  | none=>some d
  | some x=>(r x).bind bound
def fillL (r:X→Option Value) (cells:List Value):List (Nat×Nat×X)→Option (Prop×List Value)
  | []=>some (True,cells)
  | (off,n,x)::rest=>match r x with
    | some v=>(fillL r (cells.take off++v.cells.toList++cells.drop (off+n)) rest).map fun p=>((v.cells.size=n∧off+n≤cells.length)∧p.1,p.2)
    | none=>none
def cellsAt (F:Base) (H:Hp) (b off n:Nat):Option (List Value):=match rdObj F H b with
  | some (.cells c _ _)=>if off+n≤c.size then some ((c.toList.drop off).take n) else none
  | _=>none
def u8s:List Value→Option (List UInt8)
  | []=>some []
  | .int .u8 n::r=>(u8s r).map (UInt8.ofNat n.toNat::·)
  | _=>none
def qev (F:Base) (H:Hp) (r rT rF:X→Option Value):S→Option (Prop×Value)
  | .mv x=>(r x).map fun v=>(True,v)
  | .pick c x y=>match r c,rT x,rF y with
    | some (.bool p),some vx,some vy=>some ((p=true→isB vx)∧(p=false→isB vy),.bool (bif p then asB vx else asB vy))
    | _,_,_=>none
  | .bin op x y=>match r x,r y with
    | some a,some b=>binq op a b
    | _,_=>none
  | .beq neg x y=>match r x,r y with
    | some (.bool a),some (.bool b)=>some (True,.bool (if neg then !(a==b) else a==b))
    | some _,some _=>some (False,.bool false)
    | _,_=>none
  | .ueq neg x y=>match r x,r y with
    | some (.agg m),some (.agg n)=>match m.toList,n.toList with
      | [.string a,.string b],[.string c,.string d]=>some (True,.bool (if neg then !(a.data.toList==c.data.toList&&b.data.toList==d.data.toList) else a.data.toList==c.data.toList&&b.data.toList==d.data.toList))
      | _,_=>some (False,.bool false)
    | some _,some _=>some (False,.bool false)
    | _,_=>none
  | .un op x=>match r x with
    | some a=>(unq op a).map fun v=>(True,v)
    | none=>none
  | .conv k x=>match r x with
    | some (.int _ n)=>some (True,.int k (k.wrap n))
    | _=>none
  | .add n x=>match r x with
    | some (.pointer (some ⟨b,off,none⟩))=>some (True,.pointer (some ⟨b,off+n,none⟩))
    | some _=>some (False,undef)
    | none=>none
  | .fld off n g x=>match r x with
    | some (.agg cs)=>if g then some (off+n≤cs.size,.agg ((cs.toList.drop off).take n).toArray) else some (off < cs.size,cs.getD off undef)
    | _=>none
  | .ixA len n x i=>match r x,r i with
    | some (.pointer (some ⟨b,off,none⟩)),some (.int _ k)=>some (0≤k∧k < len,.pointer (some ⟨b,off+k.toNat * n,none⟩))
    | _,_=>none
  | .ixS n x i=>match r x,r i with
    | some (.slice (some ⟨b,off,none⟩) len _),some (.int _ k)=>some (0≤k∧k < len,.pointer (some ⟨b,off+k.toNat * n,none⟩))
    | some (.slice _ _ _),some (.int _ _)=>some (False,undef)
    | _,_=>none
  | .ixStr x i=>match r x,r i with
    | some (.string s),some (.int _ k)=>some (0≤k∧k < s.data.toList.length,.int .u8 (s.data.toList.getD k.toNat 0).toNat)
    | _,_=>none
  | .ixAgg len n g x i=>match r x,r i with
    | some (.agg cs),some (.int _ k)=>if g then some (0≤k∧k < len∧k.toNat * n+n≤cs.size,.agg ((cs.toList.drop (k.toNat * n)).take n).toArray)
        else some (0≤k∧k < len∧k.toNat * n < cs.size,cs.getD (k.toNat * n) undef)
    | _,_=>none
  | .ld n g x=>match r x with
    | some (.pointer (some ⟨b,off,none⟩))=>match cellsAt F H b off n with
      | some l=>if g then some (True,.agg l.toArray) else some (n=1,l.getD 0 undef)
      | none=>some (False,undef)
    | some _=>some (False,undef)
    | none=>none
  | .ext x i=>match r x with
    | some (.tuple vs)=>(vs[i]?).map fun v=>(True,v)
    | _=>none
  | .lenStr x=>match r x with
    | some (.string s)=>some (True,.int .i64 s.data.toList.length)
    | some _=>some (False,.int .i64 0)
    | none=>none
  | .lenSl x=>match r x with
    | some (.slice _ n _)=>some (True,.int .i64 n)
    | some _=>some (False,.int .i64 0)
    | none=>none
  | .mkF fn first captured=>match first.mapM r,captured.mapM r with
    | some a,some b=>some (True,.func fn a.toArray b.toArray)
    | _,_=>none
  | .build z ps=>(fillL r z ps).map fun p=>(p.1,.agg p.2.toArray)
  | .slStr x lo hi=>match r x with
    | some (.string s)=>match rdO r 0 lo,rdO r s.data.toList.length hi with
      | some l,some h=>some (0≤l∧l≤h∧h≤s.data.toList.length,.string (bs ((s.data.toList.take h.toNat).drop l.toNat)))
      | _,_=>none
    | _=>none
  | .slS n x lo hi=>match r x with
    | some (.slice (some ⟨b,off,none⟩) len cap)=>match rdO r 0 lo,rdO r len hi with
      | some l,some h=>some (0≤l∧l≤h∧h≤cap∧(l.toNat=cap→l=0),.slice (some ⟨b,off+l.toNat * n,none⟩) (h - l).toNat (cap - l.toNat))
      | _,_=>none
    | _=>none
  | .slA len n x lo hi=>match r x with
    | some (.pointer (some ⟨b,off,none⟩))=>match rdO r 0 lo,rdO r len hi with
      | some l,some h=>some (0≤l∧l≤h∧h≤len∧(l.toNat=len→l=0),.slice (some ⟨b,off+l.toNat * n,none⟩) (h - l).toNat (len - l.toNat))
      | _,_=>none
    | _=>none
  | .nck x=>match r x with
    | some (.pointer (some p))=>some (True,.pointer (some p))
    | some (.func (.func f) a b)=>some (True,.func (.func f) a b)
    | _=>none
  | .mx x y=>match r x,r y with
    | some (.int k a),some (.int k' b)=>some (k=k',.int k (if b > a then b else a))
    | _,_=>none
  | .mn x y=>match r x,r y with
    | some (.int k a),some (.int k' b)=>some (k=k',.int k (if b < a then b else a))
    | _,_=>none
  | .bstr x=>match r x with
    | some (.slice none _ _)=>some (True,.string (bs []))
    | some (.slice (some ⟨b,off,none⟩) n _)=>match cellsAt F H b off n with
      | some l=>match u8s l with
        | some u=>some (True,.string (bs u))
        | none=>none
      | none=>none
    | _=>none
  | _=>none
section
variable {P:Program} {F:Base} {H:Hp}
theorem add_eq (b off n:Nat):(⟨b,off,none⟩:Addr).add n=⟨b,off+n,none⟩:=by
  unfold Addr.add;split
  · rename_i h;subst h;rfl
  · rfl
theorem semq_underlying {t:TypeId} {d:TypeDesc} (h:P.underlying t=some d) {K:TypeDesc→Prop}:semq P F H (underlying t) K↔K d:=by
  unfold underlying;simp only [semq_bind,program,semq,h];exact Iff.rfl
theorem semq_typeInfo {t:TypeId} {i:TypeInfo} (h:P.info? t=some i) {K:TypeInfo→Prop}:semq P F H (typeInfo t) K↔K i:=by
  unfold typeInfo;simp only [semq_bind,program,semq,h];exact Iff.rfl
theorem semq_pure {α:Type} {x:α} {K:α→Prop}:semq P F H (pure x:Sem α) K↔K x:=Iff.rfl
theorem semq_sizeOf {t:TypeId} {n:Nat} (h:szO P t=some n) {K:Nat→Prop}:semq P F H (sizeOf t) K↔K n:=by
  unfold szO at h
  cases hi:P.info? t with
  | none=>rw [hi] at h;cases h
  | some i=>
    rw [hi] at h
    simp only [Option.map_some,Option.some.injEq] at h
    unfold sizeOf
    simp only [semq_bind,semq_typeInfo hi,semq_pure,h]
theorem semq_isAgg {t:TypeId} {g:Bool} (h:aggB P t=some g) {K:Bool→Prop}:semq P F H (isAgg t) K↔K g:=by
  unfold aggB at h
  unfold isAgg
  rw [semq_bind]
  cases hu:P.underlying t with
  | none=>rw [hu] at h;cases h
  | some d=>
    rw [hu] at h
    rw [semq_underlying hu]
    cases d <;> (simp only [Option.some.injEq] at h;subst h;exact Iff.rfl)
theorem semq_zero {t:TypeId} {z:Value} (h:zeroO P t=some z) {K:Value→Prop}:semq P F H (zeroValue t) K↔K z:=by
  unfold zeroO at h
  cases hi:P.info? t with
  | none=>rw [hi] at h;cases h
  | some i=>
    rw [hi] at h
    simp only [Option.bind_some] at h
    unfold zeroValue
    simp only [semq_bind,semq_typeInfo hi,h,semq_pure]
theorem semq_load {b off:Nat} {v:Value} (h:cellOf (rdObj F H b) ⟨b,off,none⟩=some v) {K:Value→Prop} (hK:K v):semq P F H (load ⟨b,off,none⟩) K:=by
  unfold load;simp only [semq,h];exact hK
theorem cellOf_at {b:Nat} {c:Array Value} {e:TypeId} {f:Nat×Nat} (ho:rdObj F H b=some (.cells c e f)) (i:Nat):cellOf (rdObj F H b) ⟨b,i,none⟩=c[i]?:=by
  simp [cellOf,ho]
theorem semq_loadCellsFrom {b off:Nat} {c:Array Value} {e:TypeId} {f:Nat×Nat} (ho:rdObj F H b=some (.cells c e f)):∀ (n i:Nat) (acc:Array Value) (K:Array Value→Prop),off+i+n≤c.size →
    K (acc++((c.toList.drop (off+i)).take n).toArray)→semq P F H (loadCellsFrom ⟨b,off,none⟩ i n acc) K
  | 0,i,acc,K,_,hK=>by simpa [loadCellsFrom,semq_pure] using hK
  | n + 1,i,acc,K,hl,hK=>by
    unfold loadCellsFrom
    rw [semq_bind,add_eq]
    have hlt:off+i < c.size:=by omega
    refine semq_load (v:=c[off+i]) (by rw [cellOf_at ho];simp [hlt]) ?_
    refine semq_loadCellsFrom ho n (i+1) _ K (by omega) ?_
    have:(c.toList.drop (off+i)).take (n+1)=c[off+i]::(c.toList.drop (off+(i+1))).take n:=by
      rw [List.drop_eq_getElem_cons (by simpa using hlt),List.take_succ_cons]
      simp [Nat.add_assoc]
    rw [this] at hK
    have e2:∀ (x:Value) (l:List Value),acc++(x::l).toArray=acc.push x++l.toArray:=fun x l=>by simp
    rw [e2] at hK
    exact hK
theorem semq_loadCells {b off n:Nat} {l:List Value} (h:cellsAt F H b off n=some l) {K:Array Value→Prop} (hK:K l.toArray):semq P F H (loadCells ⟨b,off,none⟩ n) K:=by
  unfold cellsAt at h
  split at h
  · rename_i c e f ho
    split at h
    · rename_i hle
      simp only [Option.some.injEq] at h
      subst h
      unfold loadCells
      exact semq_loadCellsFrom ho n 0 #[] K (by omega) (by simpa using hK)
    · cases h
  · cases h
end
end Go.Eng
namespace Go.Eng
open Go
section
variable {P:Program} {F:Base} {H:Hp} {a:Act} {r rT rF:X→Option Value} {ob:Prop} {v:Value}
def Gives (P:Program) (F:Base) (H:Hp) (a:Act) (o:Oper) (v:Value):Prop:=semq P F H (execOp a.eval o) (fun n=>n=.value v)
theorem gives_v {o:Oper} {s:Sem Value} (he:execOp a.eval o=(do let x ← s;pure (.value x))) (h:semq P F H s (fun x=>x=v)):Gives P F H a o v:=by
  unfold Gives
  rw [he,semq_bind]
  exact semq_mono _ _ _ (fun x hx=>by rw [hx];exact rfl) h
def Rd (a:Act) (r:X→Option Value):Prop:=∀ x v,r x=some v→xv a x=v
theorem Rd.ev (h:Rd a r) {x:Operand} {v:Value} (hx:r (X.of x)=some v):a.eval x=v:=by rw [← xv_of];exact h _ _ hx
theorem gives_mv (hr:Rd a r) {o:Oper} {x:Operand} (hop:o.op=.move x∨o.op=.assign x) (hq:qev F H r rT rF (.mv (X.of x))=some (ob,v)):Gives P F H a o v:=by
  simp only [qev,Option.map_eq_some_iff,Prod.mk.injEq] at hq
  obtain ⟨v',h1,h2,rfl⟩:=hq
  have:=hr.ev h1
  unfold Gives execOp
  rcases hop with h | h <;> rw [h] <;> show (Next.value (a.eval x))=_ <;> rw [this]
theorem gives_pick (hr:Rd a r) {o:Oper} {c x y:Operand} (hop:o.op=.pick c x y)
    (hT:xv a (X.of c)=.bool true→Rd a rT) (hF:xv a (X.of c)=.bool false→Rd a rF)
    (hq:qev F H r rT rF (.pick (X.of c) (X.of x) (X.of y))=some (ob,v)) (hob:ob):Gives P F H a o v:=by
  simp only [qev] at hq
  split at hq
  case h_2=>cases hq
  rename_i p vx vy h1 h2 h3
  simp only [Option.some.injEq,Prod.mk.injEq] at hq
  obtain ⟨rfl,rfl⟩:=hq
  have e1:=hr.ev h1
  unfold Gives execOp
  rw [hop]
  show semq P F H ((asBool (a.eval c)).bind _) _
  rw [e1]
  show Next.value (if p=true then a.eval x else a.eval y)=_
  cases p with
  | true=>rw [if_pos rfl,(hT (by rw [xv_of];exact e1)).ev h2];exact congrArg _ (isB_asB (hob.1 rfl))
  | false=>rw [if_neg (by decide),(hF (by rw [xv_of];exact e1)).ev h3];exact congrArg _ (isB_asB (hob.2 rfl))
theorem eqGuard_int (op:BinOp) (t:TypeId) (x y:Operand) (k k':IntKind) (m n:Int):eqGuard op t x y (.int k m) (.int k' n)=pure ():=by
  unfold eqGuard;cases op <;> rfl
theorem eqGuard_str (op:BinOp) (t:TypeId) (x y:Operand) (m n:ByteArray):eqGuard op t x y (.string m) (.string n)=pure ():=by
  unfold eqGuard;cases op <;> rfl
theorem eqGuard_bool (op:BinOp) (t:TypeId) (x y:Operand) (m n:Bool):eqGuard op t x y (.bool m) (.bool n)=pure ():=by
  unfold eqGuard;cases op <;> rfl
theorem bo_arith (op:BinOp) (h:op=.add∨op=.sub∨op=.mul) (t:TypeId) (k:IntKind) (a b:Int):binOp op t (.int k a) (.int k b)=Op.intArith op k a b:=by
  rcases h with rfl | rfl | rfl <;> (unfold binOp;simp only [ne_eq,not_true_eq_false,if_false])
theorem bo_div (op:BinOp) (h:op=.quo∨op=.rem) (t:TypeId) (k:IntKind) (a b:Int):binOp op t (.int k a) (.int k b)=Op.intDiv op k a b:=by
  rcases h with rfl | rfl <;> (unfold binOp;simp only [ne_eq,not_true_eq_false,if_false])
theorem bo_bits (op:BinOp) (h:op=.and∨op=.or) (t:TypeId) (k:IntKind) (a b:Int):binOp op t (.int k a) (.int k b)=Op.intBits op k a b:=by
  rcases h with rfl | rfl <;> (unfold binOp;simp only [ne_eq,not_true_eq_false,if_false])
theorem bo_cmp (op:BinOp) (h:op=.eql∨op=.neq∨op=.lss∨op=.leq∨op=.gtr∨op=.geq) (t:TypeId) (k:IntKind) (a b:Int):binOp op t (.int k a) (.int k b)=Op.intCmp op a b:=by
  rcases h with rfl | rfl | rfl | rfl | rfl | rfl <;> (unfold binOp;simp only [ne_eq,not_true_eq_false,if_false])
theorem bo_shl (t:TypeId) (k k':IntKind) (a b:Int):binOp .shl t (.int k a) (.int k' b)=Op.shift .shl k a k' b:=by unfold binOp;rfl
theorem bo_shr (t:TypeId) (k k':IntKind) (a b:Int):binOp .shr t (.int k a) (.int k' b)=Op.shift .shr k a k' b:=by unfold binOp;rfl
theorem bo_str (op:BinOp) (h:op≠.shl∧op≠.shr) (t:TypeId) (a b:ByteArray):binOp op t (.string a) (.string b)=Op.stringOp op a b:=by
  cases op <;> first | (simp at h;done) | (unfold binOp;rfl)
theorem semq_binq (op:BinOp) (t:TypeId) (x y:Value) (hq:binq op x y=some (ob,v)) (hob:ob):semq P F H (binOp op t x y) (fun z=>z=v):=by
  unfold binq at hq
  split at hq
  all_goals first
    | (cases hq;done)
    | skip
  all_goals (simp only [Option.some.injEq,Prod.mk.injEq] at hq;obtain ⟨rfl,rfl⟩:=hq)
  · rw [bo_shl];unfold Op.shift;rw [if_neg (by omega)];exact rfl
  · rw [bo_shr];unfold Op.shift;rw [if_neg (by omega)];exact rfl
  · subst hob;rw [bo_arith _ (by simp)];exact rfl
  · subst hob;rw [bo_arith _ (by simp)];exact rfl
  · subst hob;rw [bo_arith _ (by simp)];exact rfl
  · obtain ⟨rfl,hne⟩:=hob;rw [bo_div _ (by simp)];unfold Op.intDiv;rw [if_neg hne];exact rfl
  · obtain ⟨rfl,hne⟩:=hob;rw [bo_div _ (by simp)];unfold Op.intDiv;rw [if_neg hne];exact rfl
  · subst hob;rw [bo_bits _ (by simp)];exact rfl
  · subst hob;rw [bo_bits _ (by simp)];exact rfl
  · subst hob;rw [bo_cmp _ (by simp)];exact rfl
  · subst hob;rw [bo_cmp _ (by simp)];exact rfl
  · subst hob;rw [bo_cmp _ (by simp)];exact rfl
  · subst hob;rw [bo_cmp _ (by simp)];exact rfl
  · subst hob;rw [bo_cmp _ (by simp)];exact rfl
  · subst hob;rw [bo_cmp _ (by simp)];exact rfl
  · rw [bo_str _ (by simp)];unfold Op.stringOp
    have e:IntKind.i64.max=9223372036854775807:=by decide
    rw [e]
    simp only
    rw [if_neg (by omega)]
    exact rfl
  · rw [bo_str _ (by simp)];unfold Op.stringOp;simp only [toList_eq];exact rfl
  · rw [bo_str _ (by simp)];unfold Op.stringOp;simp only [toList_eq];exact rfl
  · rw [bo_str _ (by simp)];unfold Op.stringOp;simp only [toList_eq];exact rfl
  · rw [bo_str _ (by simp)];unfold Op.stringOp;simp only [toList_eq];exact rfl
  · rw [bo_str _ (by simp)];unfold Op.stringOp;simp only [toList_eq];exact rfl
  · rw [bo_str _ (by simp)];unfold Op.stringOp;simp only [toList_eq];exact rfl
  · exact hob.elim
theorem binq_kinds {op:BinOp} {x y:Value} {z:Prop×Value} (h:binq op x y=some z) (hob:z.1):(∃ k a k' b,x=.int k a∧y=.int k' b)∨(∃ a b,x=.string a∧y=.string b):=by
  unfold binq at h
  split at h <;> first
    | (cases h;done)
    | exact .inl ⟨_,_,_,_,rfl,rfl⟩
    | exact .inr ⟨_,_,rfl,rfl⟩
    | (simp only [Option.some.injEq] at h;subst h;exact hob.elim)
theorem gives_bin (hr:Rd a r) {o:Oper} {op:BinOp} {t t':TypeId} {x y:Operand} (hop:o.op=.binOp op t x y t')
    (hq:qev F H r rT rF (.bin op (X.of x) (X.of y))=some (ob,v)) (hob:ob):Gives P F H a o v:=by
  simp only [qev] at hq
  split at hq
  case h_2=>cases hq
  rename_i va vb h1 h2
  have e1:=hr.ev h1
  have e2:=hr.ev h2
  have he:execOp a.eval o=(do let x ← (do eqGuard op t x y (a.eval x) (a.eval y);binOp op t (a.eval x) (a.eval y));pure (.value x)):=by
    unfold execOp;rw [hop]
  refine gives_v he ?_
  rw [e1,e2,semq_bind]
  have hg:eqGuard op t x y va vb=pure ():=by
    rcases binq_kinds hq hob with ⟨k,m,k',n,rfl,rfl⟩ | ⟨m,n,rfl,rfl⟩
    · exact eqGuard_int ..
    · exact eqGuard_str ..
  rw [hg]
  show semq P F H (binOp op t va vb) _
  exact semq_binq op t va vb hq hob
theorem semq_equalIn_bool {d:Nat} {t:TypeId} {m n:Bool} (hu:P.underlying t=some .bool) {K:Bool→Prop} (hK:K (m==n)):semq P F H (Op.equalIn (d+1) t (.bool m) (.bool n)) K:=by
  unfold Op.equalIn
  rw [semq_bind,semq_underlying hu]
  exact hK
theorem gives_beq (hr:Rd a r) {o:Oper} {op:BinOp} {t t':TypeId} {x y:Operand} (hop:o.op=.binOp op t x y t') (ht:op=.eql∨op=.neq) (hu:P.underlying t=some .bool)
    (hq:qev F H r rT rF (.beq (op==.neq) (X.of x) (X.of y))=some (ob,v)) (hob:ob):Gives P F H a o v:=by
  simp only [qev] at hq
  split at hq
  case h_2=>simp only [Option.some.injEq,Prod.mk.injEq] at hq;exact (hq.1 ▸ hob:False).elim
  case h_3=>cases hq
  rename_i m n h1 h2
  simp only [Option.some.injEq,Prod.mk.injEq] at hq
  obtain ⟨rfl,rfl⟩:=hq
  have e1:=hr.ev h1
  have e2:=hr.ev h2
  have he:execOp a.eval o=(do let x ← (do eqGuard op t x y (a.eval x) (a.eval y);binOp op t (a.eval x) (a.eval y));pure (.value x)):=by
    unfold execOp;rw [hop]
  refine gives_v he ?_
  rw [e1,e2,eqGuard_bool]
  show semq P F H (binOp op t (.bool m) (.bool n)) _
  rcases ht with rfl | rfl
  · have e:binOp .eql t (.bool m) (.bool n)=(Op.equal t (.bool m) (.bool n) >>= fun z=>pure (Value.bool z)):=by unfold binOp;rfl
    rw [e,semq_bind]
    exact semq_equalIn_bool (d:=9999) hu rfl
  · have e:binOp .neq t (.bool m) (.bool n)=(Op.equal t (.bool m) (.bool n) >>= fun z=>pure (Value.bool (!z))):=by unfold binOp;rfl
    rw [e,semq_bind]
    exact semq_equalIn_bool (d:=9999) hu rfl
end
end Go.Eng
