/- The engine, part 9: the symbolic walk of regions and of code. -/
import Derived.Test.YtoelfmmfjebabaaGreatDoorEng8
import Derived.Deep.LoopGhost
import Derived.LoopN
import Derived.Scope
namespace Go.Eng
open Go
def kindS (draw:Bool) (ex:Nat) (gd:Bool):S→Kind
  | .ef ..=>.e
  | .ld .. | .bstr .. | .xcall ..=>.q
  | .alloc .. | .box .. | .bslice .. | .sbytes ..=>if draw then .g else .e
  | .store .. | .raw _=>.e
  | .call .. | .callV ..=>if ex=1 then .e else if ex=2 then .g else if draw||gd then .q else .e
  | _=>if draw then .p else .q
def gOf (ops:Array Oper):Option (Nat×Bool)→Option (Option Nat)
  | none=>some none
  | some (j,w)=>match (ops[j]?).bind (·.dst) with
    | some d=>some (some (2 * d+if w then 1 else 0))
    | none=>none
def dstOk (N:Nat):Option Nat→Bool
  | none=>true
  | some d=>decide (d < N)
def lowO (P:Program) (N:Nat) (ops:Array Oper) (draw:Bool) (ex:Nat) (o:Oper):Option SO:=match low P o,gOf ops o.guard with
  | some s,some g=>if dstOk N o.dst then some ⟨o.dst,s,g,kindS draw ex g.isSome s⟩ else none
  | _,_=>none
def lit:X→Nat→List Nat
  | .t n,b=>[2 * n+b]
  | .c _,_=>[]
def pickC:S→X
  | .pick c _ _=>c
  | _=>.c undef
def skp (dst:Option Nat) (G:List Nat) (U:Fr) (C:Cf) (next:Fr→Cf→Prop):Prop:=match dst with
  | none=>next U C
  | some d=>cfree d C=true∧freeG d G=true∧next ((d,none)::U) ((d,G,.bool false)::C)
def NW (U:Fr) (C:Cf):List Nat→Prop
  | [l]=>match rd U C [] (.t (l / 2)) with
    | some (.bool p)=>p=!isPar l
    | _=>True
  | _=>True
section
variable (P:Program) (X₀:List Nat) (F:Base) (w0:World) (N:Nat)
def cnd (U:Fr) (C:Cf) (G:List Nat) (dst:Option Nat) (H:Hp) (next:Fr→Cf→Hp→Prop) (run:(Value→Hp→Prop)→Prop):Prop:=match G with
  | []=>run (fun v H'=>wr dst [] v U C (fun U C=>next U C H'))
  | l::r=>(Wf U C (l::r) (l::r)→run (fun v H'=>wr dst (l::r) v U C (fun U C=>next U C H')))∧(NW U C (l::r)→skp dst (l::r) U C (fun U C=>next U C H))
def allocP (H:Hp) (o:Obj) (k:Nat→Hp→Prop):Prop:=∀ b,(∀ e∈H,e.1≠b)→F b=none→k b ((b,o)::H)
def rawK (kk:Value→Hp→Prop):Next→Hp→Prop
  | .value v,H=>kk v H
  | .skip,H=>kk undef H
  | .enter f args,H=>CallG P X₀ F w0 f args H kk
  | _,_=>False
def stp (o:SO) (U:Fr) (C:Cf) (H:Hp) (next:Fr→Cf→Hp→Prop):Prop:=
  match o.op with
  | .call f args=>match rds U C (chain C o.g) args with
    | some vs=>(match o.k with
      | .q=>∃ v,(Wf U C (chain C o.g) (chain C o.g)→PureV P (rdObj F H) f vs.toArray v)∧wr o.dst (chain C o.g) v U C (fun U C=>next U C H)
      | .g=>cnd U C (chain C o.g) o.dst H next (fun kk=>CallG P X₀ F w0 f vs.toArray H (fun v H'=>Hext F H H'∧kk v H'))
      | _=>cnd U C (chain C o.g) o.dst H next (fun kk=>CallG P X₀ F w0 f vs.toArray H kk))
    | none=>False
  | .callV x args=>match rd U C (chain C o.g) x,rds U C (chain C o.g) args with
    | some fv,some vs=>(match o.k with
      | .q=>∃ v,(Wf U C (chain C o.g) (chain C o.g)→PureF P (rdObj F H) fv vs v)∧wr o.dst (chain C o.g) v U C (fun U C=>next U C H)
      | .g=>cnd U C (chain C o.g) o.dst H next (fun kk=>CallF P X₀ F w0 fv vs H (fun v H'=>Hext F H H'∧kk v H'))
      | _=>cnd U C (chain C o.g) o.dst H next (fun kk=>CallF P X₀ F w0 fv vs H kk))
    | _,_=>False
  | .alloc T z=>cnd U C (chain C o.g) o.dst H next (fun kk=>allocP F H (.cells z.toArray T) fun b H'=>kk (.pointer (some ⟨b,0,none⟩)) H')
  | .box T x=>match rd U C (chain C o.g) x with
    | some v=>cnd U C (chain C o.g) o.dst H next (fun kk=>allocP F H (.cells v.cells T) fun b H'=>kk (.pointer (some ⟨b,0,none⟩)) H')
    | none=>False
  | .bslice T len z ps=>match fillL (rd U C (chain C o.g)) z ps with
    | some (ob,out)=>cnd U C (chain C o.g) o.dst H next (fun kk=>ob∧allocP F H (.cells out.toArray T) fun b H'=>kk (.slice (some ⟨b,0,none⟩) len len) H')
    | none=>False
  | .store n ax x=>match rd U C (chain C o.g) ax,rd U C (chain C o.g) x with
    | some (.pointer (some ⟨b,off,none⟩)),some v=>cnd U C (chain C o.g) o.dst H next (fun kk=>v.cells.size=n∧match stCells F H b off v.cells.toList with
      | some H'=>kk undef H'
      | none=>False)
    | _,_=>False
  | .sbytes T x=>match rd U C (chain C o.g) x with
    | some (.string s)=>cnd U C (chain C o.g) o.dst H next (fun kk=>∀ k,allocP F H (.cells (byteCells s.data.toList++List.replicate k (Value.int .u8 0)).toArray T (s.data.toList.length+k,s.data.toList.length+k+1)) fun b H'=>
        kk (.slice (some ⟨b,0,none⟩) s.data.toList.length (s.data.toList.length+k)) H')
    | _=>False
  | .xcall f args=>match rds U C (chain C o.g) args with
    | some vs=>∃ v,(Wf U C (chain C o.g) (chain C o.g)→semq P F H (callFunc f vs.toArray) (fun n=>n=.value v))∧wr o.dst (chain C o.g) v U C (fun U C=>next U C H)
    | none=>False
  | .ef e xs=>match rds U C (chain C o.g) xs with
    | some vs=>cnd U C (chain C o.g) o.dst H next (fun kk=>efP F H e vs (shrK kk))
    | none=>False
  | .raw oo=>cnd U C (chain C o.g) o.dst H next (fun kk=>∀ a:Act,(∃ D,FOk D N U C a)→om a (chain C o.g)→sem P F (execOp a.eval oo) H (rawK P X₀ F w0 kk))
  | s=>match qev F H (rd U C (chain C o.g)) (rd U C (lit (pickC s) 1++chain C o.g)) (rd U C (lit (pickC s) 0++chain C o.g)) s with
    | some (ob,v)=>(Wf U C (chain C o.g) (chain C o.g)→ob)∧wr o.dst (chain C o.g) v U C (fun U C=>next U C H)
    | none=>False
def svL (K:Fr→Hp→Prop):List SO→Fr→Cf→Hp→Prop
  | [],U,_,H=>K U H
  | o::r,U,C,H=>stp P X₀ F w0 N o U C H (svL K r)
end
section
variable {D:List Deferred} {P:Program} {X₀:List Nat} {F:Base} {w0:World} {N:Nat} {ops:Array Oper} {draw:Bool} {ex:Nat} {U:Fr} {C:Cf} {H:Hp} {a:Act} {o:Oper} {so:SO}
theorem wanted_slot {j d:Nat} {w:Bool} (hg:o.guard=some (j,w)) (hd:(ops[j]?).bind (·.dst)=some d):Region.wanted o (yielded ops a.tmps)=true↔a.tmps.getD d undef=.bool w:=by
  unfold Region.wanted
  rw [hg]
  unfold yielded
  simp only [hd,Option.bind_some,beq_iff_eq]
  rw [Array.getD_eq_getD_getElem?]
  cases h:a.tmps[d]? with
  | none=>simp [undef]
  | some v=>cases v <;> simp
theorem gOf_spec {g:Option Nat} (h:gOf ops o.guard=some g):(o.guard=none∧g=none)∨∃ j d w,o.guard=some (j,w)∧(ops[j]?).bind (·.dst)=some d∧g=some (2 * d+if w then 1 else 0):=by
  cases hg:o.guard with
  | none=>rw [hg] at h;simp only [gOf,Option.some.injEq] at h;exact .inl ⟨rfl,h.symm⟩
  | some jw=>
    obtain ⟨j,w⟩:=jw
    rw [hg] at h
    simp only [gOf] at h
    split at h
    · rename_i d hd;simp only [Option.some.injEq] at h;exact .inr ⟨j,d,w,rfl,hd,h.symm⟩
    · cases h
theorem lit_div (d:Nat) (w:Bool):(2 * d+if w then 1 else 0) / 2=d:=by cases w <;> simp <;> omega
theorem lit_par (d:Nat) (w:Bool):isPar (2 * d+if w then 1 else 0)=w:=by
  cases w <;> simp [isPar] <;> omega
theorem wanted_om (hf:FOk D N U C a) {g:Option Nat} (h:gOf ops o.guard=some g):Region.wanted o (yielded ops a.tmps)=true↔om a (chain C g):=by
  rcases gOf_spec h with ⟨h1,rfl⟩ | ⟨j,d,w,h1,h2,rfl⟩
  · simp [Region.wanted,h1,chain,om]
  · rw [wanted_slot h1 h2]
    simp only [chain,lit_div]
    constructor
    · intro hs l hl
      rcases List.mem_cons.1 hl with e | hl
      · subst e;rw [lit_div,lit_par];exact hs
      · split at hl
        · rename_i G v hc
          rcases hf.c _ _ _ hc with ⟨ho,_⟩ | ⟨_,hu⟩
          · exact ho l hl
          · rw [hu] at hs;cases hs
        · cases hl
    · intro ho
      have:=ho _ (by simp:(2 * d+if w then 1 else 0)∈_)
      rw [lit_div,lit_par] at this
      exact this
theorem om_append {G G':List Nat} (h:om a G) (h':om a G'):om a (G++G'):=fun l hl=>(List.mem_append.1 hl).elim (h l) (h' l)
theorem om_lit {x:X} {b:Bool} (h:xv a x=.bool b):om a (lit x (if b then 1 else 0)):=by
  cases x with
  | t n=>intro l hl;simp only [lit,List.mem_singleton] at hl;subst hl;rw [lit_div,lit_par];exact h
  | c v=>intro l hl;cases hl
def Kr (D:List Deferred) (N:Nat) (next:Fr→Cf→Hp→Prop) (a:Act) (H:Hp):Prop:=∃ U C,FOk D N U C a∧next U C H
theorem FOk.put_none {v:Value} (h:FOk D N U C a):FOk D N U C (a.put none v):=h
theorem wr_yes {next:Fr→Cf→Hp→Prop} {dst:Option Nat} {G:List Nat} {v:Value} {H:Hp} (hf:FOk D N U C a) (hd:dstOk N dst=true) (ho:om a G) (h:wr dst G v U C (fun U C=>next U C H)):Kr D N next (a.put dst v) H:=by
  cases dst with
  | none=>exact ⟨U,C,hf,h⟩
  | some d=>
    simp only [dstOk,decide_eq_true_eq] at hd
    obtain ⟨h1,h2⟩:=h
    cases G with
    | nil=>exact ⟨_,_,hf.put_u hd h1 v,h2⟩
    | cons l r=>exact ⟨_,_,hf.put_c hd h1 h2.1 (.inl ⟨ho,rfl⟩),h2.2⟩
theorem wr_no {next:Fr→Cf→Hp→Prop} {dst:Option Nat} {G:List Nat} {v:Value} {H:Hp} (hf:FOk D N U C a) (hd:dstOk N dst=true) (hG:G≠[]) (ho:¬ om a G) (h:wr dst G v U C (fun U C=>next U C H)):Kr D N next (a.put dst undef) H:=by
  cases dst with
  | none=>exact ⟨U,C,hf,h⟩
  | some d=>
    simp only [dstOk,decide_eq_true_eq] at hd
    obtain ⟨h1,h2⟩:=h
    cases G with
    | nil=>exact (hG rfl).elim
    | cons l r=>exact ⟨_,_,hf.put_c hd h1 h2.1 (.inr ⟨ho,rfl⟩),h2.2⟩
theorem skp_no {next:Fr→Cf→Hp→Prop} {dst:Option Nat} {G:List Nat} {H:Hp} (hf:FOk D N U C a) (hd:dstOk N dst=true) (ho:¬ om a G) (h:skp dst G U C (fun U C=>next U C H)):Kr D N next (a.put dst undef) H:=by
  cases dst with
  | none=>exact ⟨U,C,hf,h⟩
  | some d=>
    simp only [dstOk,decide_eq_true_eq] at hd
    obtain ⟨h1,h2,h3⟩:=h
    exact ⟨_,_,hf.put_c hd h1 h2 (.inr ⟨ho,rfl⟩),h3⟩
theorem cnd_sound {g:Option Nat} (hg:gOf ops o.guard=some g) (hf:FOk D N U C a) (hd:dstOk N o.dst=true) {k:Kind} {next:Fr→Cf→Hp→Prop} {run:(Value→Hp→Prop)→Prop}
    (hrun:om a (chain C g)→∀ kk:Value→Hp→Prop,run kk→(∀ K,(∀ v H',kk v H'→K (a.put o.dst v) H')→kop P X₀ F w0 k o K a H)∨sem P F (execOp a.eval o) H (rawK P X₀ F w0 fun v H'=>(k=.g→Hext F H H')∧kk v H')) (hk:k≠.q) (hk':k≠.p)
    (h:cnd U C (chain C g) o.dst H next run) :
    if Region.wanted o (yielded ops a.tmps) then kop P X₀ F w0 k o (Kr D N next) a H else Kr D N next (a.put o.dst undef) H:=by
  have fin:om a (chain C g)→(∀ kk:Value→Hp→Prop,(∀ v H',kk v H'→Kr D N next (a.put o.dst v) H')→run kk→kop P X₀ F w0 k o (Kr D N next) a H):=fun ho kk hkk hr=>by
    rcases hrun ho kk hr with h1 | h1
    · exact h1 _ hkk
    · have tr:∀ (K':Act→Hp→Prop),(∀ v H',(k=.g→Hext F H H')∧kk v H'→K' (a.put o.dst v) H')→sem P F (execOp a.eval o) H (opK P X₀ F w0 o a K'):=fun K' hK'=>
        sem_mono _ _ _ _ (fun n H' hn=>by
          cases n <;> simp only [rawK] at hn <;> simp only [opK]
          case value v=>exact hK' _ _ hn
          case skip=>exact hK' _ _ hn
          case enter f args=>exact hn.mono fun v H'' hv=>hK' _ _ hv) h1
      cases k with
      | q=>exact (hk rfl).elim
      | g=>exact tr _ fun v H' hv=>⟨hv.1 rfl,hkk _ _ hv.2⟩
      | e=>exact tr _ fun v H' hv=>Shr.of (hkk _ _ hv.2)
      | p=>exact (hk' rfl).elim
  split
  · rename_i hw
    have ho:=(wanted_om hf hg).1 hw
    cases hG:chain C g with
    | nil=>rw [hG] at h;exact fin ho _ (fun v H' hv=>wr_yes hf hd (hG ▸ ho) hv) h
    | cons l r=>
      rw [hG] at h ho
      exact fin (hG ▸ ho) _ (fun v H' hv=>wr_yes hf hd ho hv) (h.1 (hf.wf ho ho))
  · rename_i hw
    have ho:¬ om a (chain C g):=fun h=>hw ((wanted_om hf hg).2 h)
    cases hG:chain C g with
    | nil=>rw [hG] at ho;exact (ho (fun l hl=>by cases hl)).elim
    | cons l r=>
      rw [hG] at h ho
      refine skp_no hf hd ho (h.2 ?_)
      cases r with
      | cons _ _=>trivial
      | nil =>
        simp only [NW]
        split
        · rename_i p hp
          have h1:=hf.rd (G:=[]) (fun l hl=>by cases hl) hp
          simp only [xv] at h1
          have:p≠isPar l:=fun e=>ho fun l' hl'=>by
            simp only [List.mem_singleton] at hl'
            subst hl';rw [h1,e]
          revert this;cases p <;> cases isPar l <;> simp
        · trivial
theorem kop_q_of {next:Fr→Cf→Hp→Prop} {v:Value} (h:Gives P F H a o v) (hn:Kr D N next (a.put o.dst v) H):kop P X₀ F w0 .q o (Kr D N next) a H:=
  ⟨v,semq_mono _ _ _ (fun n hn=>by rw [hn];exact rfl) h,hn⟩
theorem FOk.Rd (hf:FOk D N U C a) {G:List Nat} (ho:om a G):Eng.Rd a (Eng.rd U C G):=fun _ _ h=>hf.rd ho h
theorem rds_map (hf:FOk D N U C a) {G:List Nat} (ho:om a G) {xs:Array Operand} {vs:List Value} (h:rds U C G (xs.toList.map X.of)=some vs):xs.map a.eval=vs.toArray:=by
  have:=hf.rds ho h
  apply Array.ext'
  rw [← this]
  simp [xv_of]
theorem low_quiet (hl:low P o=some so.op) (hf:FOk D N U C a) {G:List Nat} (ho:om a G) {ob:Prop} {v:Value} (hob:ob)
    (hq:qev F H (rd U C G) (rd U C (lit (pickC so.op) 1++G)) (rd U C (lit (pickC so.op) 0++G)) so.op=some (ob,v)):Gives P F H a o v:=by
  have hr:=hf.Rd ho
  obtain ⟨_,s,_,_⟩:=so
  simp only at hl hq
  unfold low at hl
  split at hl
  all_goals try (simp only [Option.some.injEq] at hl)
  · rename_i x hop;subst hl;exact gives_mv hr (.inl hop) hq
  · rename_i x hop;subst hl;exact gives_mv hr (.inr hop) hq
  · rename_i c x y hop
    subst hl
    exact gives_pick hr hop (fun h=>hf.Rd (om_append (om_lit (b:=true) h) ho)) (fun h=>hf.Rd (om_append (om_lit (b:=false) h) ho)) hq hob
  · rename_i op t x y t' hop
    split at hl
    · split at hl
      · rename_i hu;simp only [Option.some.injEq] at hl;subst hl;exact gives_beq hr hop (.inl rfl) hu hq hob
      · simp only [Option.some.injEq] at hl;subst hl;exact gives_bin hr hop hq hob
      · simp only [Option.some.injEq] at hl;subst hl;exact gives_bin hr hop hq hob
      · split at hl
        · rename_i hu2;simp only [Option.some.injEq] at hl;subst hl;exact gives_ueq hr hop (.inl rfl) hu2 hq hob
        · simp only [Option.some.injEq] at hl;subst hl;cases hq
    · split at hl
      · rename_i hu;simp only [Option.some.injEq] at hl;subst hl;exact gives_beq hr hop (.inr rfl) hu hq hob
      · simp only [Option.some.injEq] at hl;subst hl;exact gives_bin hr hop hq hob
      · simp only [Option.some.injEq] at hl;subst hl;exact gives_bin hr hop hq hob
      · split at hl
        · rename_i hu2;simp only [Option.some.injEq] at hl;subst hl;exact gives_ueq hr hop (.inr rfl) hu2 hq hob
        · simp only [Option.some.injEq] at hl;subst hl;cases hq
    · simp only [Option.some.injEq] at hl;subst hl;exact gives_bin hr hop hq hob
  · rename_i op t x hop;subst hl;exact gives_un hr hop hq
  · rename_i s d x hop
    split at hl
    · rename_i k0 k hs hd;simp only [Option.some.injEq] at hl;subst hl;exact gives_conv hr hop hs hd hq
    · rename_i e hs hd
      split at hl
      · rename_i he;simp only [Option.some.injEq] at hl;subst hl;exact gives_bstr hr hop hs hd he hq
      · simp only [Option.some.injEq] at hl;subst hl;cases hq
    · split at hl <;> (simp only [Option.some.injEq] at hl;subst hl;cases hq)
    · simp only [Option.some.injEq] at hl;subst hl;cases hq
  · rename_i s x i hop
    split at hl
    · rename_i off n t hfo;simp only [Option.some.injEq] at hl;subst hl;exact gives_add hr hop hfo hq hob
    · cases hl
  · rename_i s x i hop
    split at hl
    · rename_i off n t hfo
      simp only [Option.map_eq_some_iff] at hl
      obtain ⟨g,hg,rfl⟩:=hl
      exact gives_fld hr hop hfo hg hq hob
    · cases hl
  · rename_i t x i hop
    split at hl
    · rename_i len e hu
      simp only [Option.map_eq_some_iff] at hl
      obtain ⟨n,hn,rfl⟩:=hl
      exact gives_ixA hr hop hu hn hq hob
    · rename_i e hu
      simp only [Option.map_eq_some_iff] at hl
      obtain ⟨n,hn,rfl⟩:=hl
      exact gives_ixS hr hop hu hn hq hob
    · cases hl
  · rename_i t x i hop
    split at hl
    · rename_i hu;simp only [Option.some.injEq] at hl;subst hl;exact gives_ixStr hr hop hu hq hob
    · rename_i len e hu
      split at hl
      · rename_i n g hn hg;simp only [Option.some.injEq] at hl;subst hl;exact gives_ixAgg hr hop hu hn hg hq hob
      · cases hl
    · cases hl
  · rename_i t x hop
    split at hl
    · rename_i n g hn hg;simp only [Option.some.injEq] at hl;subst hl;exact gives_ld hr hop hn hg hq hob
    · cases hl
  · rename_i x i hop;subst hl;exact gives_ext hr hop hq
  · rename_i c hop
    split at hl
    · rename_i hc
      split at hl
      · rename_i x t hx ht
        split at hl
        · rename_i hu;simp only [Option.some.injEq] at hl;subst hl;exact gives_lenStr hr hop hc hx ht hu hq hob
        · rename_i e hu;simp only [Option.some.injEq] at hl;subst hl;exact gives_lenSl hr hop hc hx ht hu hq hob
        · simp only [Option.some.injEq] at hl;subst hl;cases hq
        · cases hl
      · cases hl
    · rename_i hc
      split at hl
      · rename_i x y hx;simp only [Option.some.injEq] at hl;subst hl;exact gives_mx hr hop hc hx hq hob
      · cases hl
    · rename_i hc
      split at hl
      · rename_i x y hx;simp only [Option.some.injEq] at hl;subst hl;exact gives_mn hr hop hc hx hq hob
      · cases hl
    · split at hl <;> (simp only [Option.some.injEq] at hl;subst hl;cases hq)
    · simp only [Option.some.injEq] at hl;subst hl;cases hq
    · split at hl
      · split at hl
        · simp only [Option.some.injEq] at hl;subst hl;cases hq
        · simp only [Option.some.injEq] at hl;subst hl;cases hq
      · cases hl
    · simp only [Option.some.injEq] at hl;subst hl;cases hq
    · cases hl
  · rename_i fn fi ca hop;subst hl;exact gives_mkF hr hop hq
  · rename_i t ps hop
    split at hl
    · rename_i pl z hpl hz
      simp only [Option.map_eq_some_iff] at hl
      obtain ⟨l,hps,rfl⟩:=hl
      exact gives_build hr hop hpl hz hps hq hob
    · cases hl
  · rename_i t x lo hi hop
    split at hl
    · rename_i hu;simp only [Option.some.injEq] at hl;subst hl;exact gives_slStr hr hop hu hq hob
    · rename_i e hu
      simp only [Option.map_eq_some_iff] at hl
      obtain ⟨n,hn,rfl⟩:=hl
      exact gives_slS hr hop hu hn hq hob
    · rename_i len e hu
      simp only [Option.map_eq_some_iff] at hl
      obtain ⟨n,hn,rfl⟩:=hl
      exact gives_slA hr hop hu hn hq hob
    · cases hl
  · rename_i x hop;subst hl;exact gives_nck hr hop hq
  · split at hl <;> (simp only [Option.some.injEq] at hl;subst hl;cases hq)
  · subst hl;cases hq
  · repeat' split at hl
    all_goals (simp only [Option.some.injEq] at hl;subst hl;cases hq)
  · repeat' split at hl
    all_goals (simp only [Option.some.injEq] at hl;subst hl;cases hq)
  · repeat' split at hl
    all_goals (simp only [Option.some.injEq] at hl;subst hl;cases hq)
  · simp only [Option.map_eq_some_iff] at hl;obtain ⟨z,hz,rfl⟩:=hl;cases hq
  · subst hl;cases hq
  · simp only [Option.map_eq_some_iff] at hl;obtain ⟨z,hz,rfl⟩:=hl;cases hq
  · split at hl
    · split at hl
      · split at hl
        · cases hl
        · simp only [Option.map_eq_some_iff] at hl;obtain ⟨z,hz,rfl⟩:=hl;cases hq
      · cases hl
    · cases hl
  · subst hl;cases hq
end
end Go.Eng
namespace Go.Eng
open Go
section
variable {P:Program} {o:Oper}
theorem low_alloc {T:Nat} {z:List Value} (h:low P o=some (.alloc T z)):o.op=.alloc T∧∃ v,zeroO P T=some v∧v.cells.toList=z:=by
  unfold low at h
  repeat' split at h
  all_goals simp only [Option.some.injEq,reduceCtorEq,Option.map_eq_some_iff,S.alloc.injEq,and_false,exists_false] at h
  all_goals try (rename_i hop;obtain ⟨v,hv,rfl,hz⟩:=h;exact ⟨hop,v,hv,hz⟩)
theorem low_box {T:Nat} {x:X} (h:low P o=some (.box T x)):∃ y,o.op=.box T y∧X.of y=x:=by
  unfold low at h
  repeat' split at h
  all_goals simp only [Option.some.injEq,reduceCtorEq,Option.map_eq_some_iff,S.box.injEq,and_false,exists_false] at h
  all_goals try (rename_i hop;obtain ⟨rfl,hz⟩:=h;exact ⟨_,hop,hz⟩)
theorem low_store {n:Nat} {x y:X} (h:low P o=some (.store n x y)):∃ t x' y',o.op=.store t x' y'∧szO P t=some n∧X.of x'=x∧X.of y'=y:=by
  unfold low at h
  repeat' split at h
  all_goals simp only [Option.some.injEq,reduceCtorEq,Option.map_eq_some_iff,S.store.injEq,and_false,exists_false] at h
  all_goals try (rename_i hop;obtain ⟨m,hm,rfl,h1,h2⟩:=h;exact ⟨_,_,_,hop,hm,h1,h2⟩)
theorem low_raw {oo:Oper} (h:low P o=some (.raw oo)):oo=o:=by
  unfold low at h
  repeat' split at h
  all_goals simp only [Option.some.injEq,reduceCtorEq,Option.map_eq_some_iff,S.raw.injEq,and_false,exists_false] at h
  all_goals try exact h.symm
theorem low_call {f:Nat} {xs:List X} (h:low P o=some (.call f xs)):∃ c,o.op=.call c∧c.callee=.value (.func f)∧c.args.toList.map X.of=xs∧callable P f=true:=by
  unfold low at h
  repeat' split at h
  all_goals simp only [Option.some.injEq,reduceCtorEq,Option.map_eq_some_iff,S.call.injEq,and_false,exists_false] at h
  all_goals try (rename_i hop _ _ hc _ _ hfn hb;obtain ⟨rfl,h2⟩:=h;exact ⟨_,hop,hc,h2,by unfold callable;rw [hfn];exact hb⟩)
theorem low_callV {x:X} {xs:List X} (h:low P o=some (.callV x xs)):∃ c y,o.op=.call c∧c.callee=.value y∧X.of y=x∧c.args.toList.map X.of=xs:=by
  unfold low at h
  repeat' split at h
  all_goals simp only [Option.some.injEq,reduceCtorEq,Option.map_eq_some_iff,S.callV.injEq,and_false,exists_false] at h
  all_goals try (rename_i hop _ _ _ hc;obtain ⟨h1,h2⟩:=h;exact ⟨_,_,hop,hc,h1,h2⟩)
theorem low_sbytes {T:Nat} {x:X} (h:low P o=some (.sbytes T x)):∃ s d y,o.op=.convert s d y∧P.underlying s=some .string∧P.underlying d=some (.slice T)∧P.underlying T=some (.int .u8)∧X.of y=x:=by
  unfold low at h
  repeat' split at h
  all_goals simp only [Option.some.injEq,reduceCtorEq,Option.map_eq_some_iff,S.sbytes.injEq,and_false,exists_false] at h
  all_goals try (rename_i hop _ _ _ hs hd _ he;obtain ⟨rfl,h2⟩:=h;exact ⟨_,_,_,hop,hs,hd,he,h2⟩)
theorem low_xcall {f:Nat} {xs:List X} (h:low P o=some (.xcall f xs)):∃ c,o.op=.call c∧c.callee=.value (.func f)∧c.args.toList.map X.of=xs:=by
  unfold low at h
  repeat' split at h
  all_goals simp only [Option.some.injEq,reduceCtorEq,Option.map_eq_some_iff,S.xcall.injEq,and_false,exists_false] at h
  all_goals try (rename_i hop _ _ hc _ _ hfn hb;obtain ⟨rfl,h2⟩:=h;exact ⟨_,hop,hc,h2⟩)
theorem low_ef {e:Ef} {xs:List X} (h:low P o=some (.ef e xs)):IsEf P o e xs:=by
  unfold low at h
  repeat' split at h
  all_goals simp only [Option.some.injEq,reduceCtorEq,Option.map_eq_some_iff,S.ef.injEq,and_false,exists_false] at h
  all_goals first
    | (rename_i hop _ hc _ _ _ _ ht;obtain ⟨rfl,rfl⟩:=h;exact .app _ _ _ _ hop hc ht)
    | (rename_i hop _ _ _ _ _ ht;obtain ⟨rfl,rfl⟩:=h;exact .mkSl _ _ _ _ _ _ _ hop ht)
    | (rename_i hop _ hc _ _ _ _ hx ht _ _ _ hu;obtain ⟨rfl,rfl⟩:=h;exact .mapLen _ _ _ _ _ hop hc hx ht hu)
    | (rename_i hop;obtain ⟨rfl,rfl⟩:=h;exact .mkMap _ hop)
    | (rename_i hop _ _ _ hu _ _ _ _ hk hz hd;obtain ⟨rfl,rfl⟩:=h;exact .mapGet _ _ _ _ _ _ _ _ hop hu hk hd hz)
    | (rename_i hop _ _ _ hu _ _ hk hd;obtain ⟨rfl,rfl⟩:=h;exact .mapSet _ _ _ _ _ _ _ hop hu hk hd)
    | (rename_i hop _ _ _ hu _ _ hk hd;obtain ⟨rfl,rfl⟩:=h;exact .mapIns _ _ _ _ _ _ _ hop hu hk hd)
theorem low_bslice {T len:Nat} {z:List Value} {l:List (Nat×Nat×X)} (h:low P o=some (.bslice T len z l)):∃ t ps n v,o.op=.buildSlice t len ps∧P.underlying t=some (.slice T)∧szO P T=some n∧zeroO P T=some v ∧
    n≠0∧len≠0∧len * n≤1000∧partsO (fun i=>some (i * n,n)) ps.toList=some l∧z=(List.range (len * n)).map (fun i=>v.cells[i % v.cells.size]!):=by
  unfold low at h
  repeat' split at h
  all_goals simp only [Option.some.injEq,reduceCtorEq,Option.map_eq_some_iff,S.bslice.injEq,and_false,exists_false] at h
  all_goals try (rename_i hop _ _ hu _ _ _ _ hn hz hc;obtain ⟨l',hl,rfl,rfl,h1,rfl⟩:=h;simp only [Bool.or_eq_true,decide_eq_true_eq,not_or] at hc;exact ⟨_,_,_,_,hop,hu,hn,hz,hc.1.1,hc.1.2,by omega,hl,h1.symm⟩)
end
section
variable {D:List Deferred} {P:Program} {X₀:List Nat} {F:Base} {w0:World} {N:Nat} {ops:Array Oper} {draw:Bool} {ex:Nat} {U:Fr} {C:Cf} {H:Hp} {a:Act} {o:Oper} {so:SO}
theorem kindS_call {gd:Bool} {s:S} (h:(∃ f args,s=.call f args)∨∃ x args,s=.callV x args):kindS draw ex gd s≠.p:=by
  rcases h with ⟨f,args,rfl⟩ | ⟨x,args,rfl⟩ <;>
  · simp only [kindS]
    split
    · simp
    · split
      · simp
      · split <;> simp
theorem allocP_sem {ob:Obj} {kk:Value→Hp→Prop} {k:Kind} {vf:Nat→Value} {s:Sem Next} (h:allocP F H ob fun b H'=>kk (vf b) H')
    (hs:(∀ b,(∀ e∈H,e.1≠b)→F b=none→rawK P X₀ F w0 (fun v H'=>(k=.g→Hext F H H')∧kk v H') (.value (vf b)) ((b,ob)::H))→sem P F s H (rawK P X₀ F w0 fun v H'=>(k=.g→Hext F H H')∧kk v H')) :
    sem P F s H (rawK P X₀ F w0 fun v H'=>(k=.g→Hext F H H')∧kk v H'):=
  hs fun b h1 h2=>⟨fun _=>Hext.new h1,h b h1 h2⟩
theorem stp_sound (hl:lowO P N ops draw ex o=some so) (hf:FOk D N U C a) {next:Fr→Cf→Hp→Prop} (h:stp P X₀ F w0 N so U C H next) :
    if Region.wanted o (yielded ops a.tmps) then kop P X₀ F w0 so.k o (Kr D N next) a H else Kr D N next (a.put o.dst undef) H:=by
  unfold lowO at hl
  split at hl
  case h_2=>cases hl
  rename_i s g hlow hg
  split at hl
  case isFalse=>cases hl
  rename_i hd
  simp only [Option.some.injEq] at hl
  subst hl
  have quiet:∀ (_:kindS draw ex g.isSome s=.q) (ob:Prop) (v:Value),(om a (chain C g)→Gives P F H a o v∨Qt P F o a H v)→wr o.dst (chain C g) v U C (fun U C=>next U C H) →
      if Region.wanted o (yielded ops a.tmps) then kop P X₀ F w0 (kindS draw ex g.isSome s) o (Kr D N next) a H else Kr D N next (a.put o.dst undef) H:=fun hk ob v hv hw=>by
    split
    · rename_i hwt
      have ho:=(wanted_om hf hg).1 hwt
      rw [hk]
      rcases hv ho with h1 | h1
      · exact kop_q_of h1 (wr_yes hf hd ho hw)
      · exact ⟨v,h1,wr_yes hf hd ho hw⟩
    · rename_i hwt
      have ho:¬ om a (chain C g):=fun h=>hwt ((wanted_om hf hg).2 h)
      exact wr_no hf hd (fun e=>ho (by rw [e];intro l hl;cases hl)) ho hw
  have plain:∀ (_:kindS draw ex g.isSome s=.q∨(kindS draw ex g.isSome s=.p∧∀ (H':Hp) (r rT rF:X→Option Value),qev F H' r rT rF s=qev F H r rT rF s)),(match qev F H (rd U C (chain C g)) (rd U C (lit (pickC s) 1++chain C g)) (rd U C (lit (pickC s) 0++chain C g)) s with
      | some (ob,v)=>(Wf U C (chain C g) (chain C g)→ob)∧wr o.dst (chain C g) v U C (fun U C=>next U C H)
      | none=>False)→if Region.wanted o (yielded ops a.tmps) then kop P X₀ F w0 (kindS draw ex g.isSome s) o (Kr D N next) a H else Kr D N next (a.put o.dst undef) H:=fun hk hh=>by
    split at hh
    case h_2=>exact hh.elim
    rename_i ob v hq
    rcases hk with hk | ⟨hk,hany⟩
    · exact quiet hk ob v (fun ho=>.inl (low_quiet (so:=⟨o.dst,s,g,kindS draw ex g.isSome s⟩) hlow hf ho (hh.1 (hf.wf ho ho)) hq)) hh.2
    · split
      · rename_i hwt
        have ho:=(wanted_om hf hg).1 hwt
        rw [hk]
        refine ⟨v,fun H'=>?_,wr_yes hf hd ho hh.2⟩
        exact semq_mono _ _ _ (fun n hn=>by rw [hn];exact rfl) (low_quiet (so:=⟨o.dst,s,g,kindS draw ex g.isSome s⟩) hlow hf ho (hh.1 (hf.wf ho ho)) ((hany H' _ _ _).trans hq))
      · rename_i hwt
        have ho:¬ om a (chain C g):=fun h=>hwt ((wanted_om hf hg).2 h)
        exact wr_no hf hd (fun e=>ho (by rw [e];intro l hl;cases hl)) ho hh.2
  cases s with
  | call f args=>
    obtain ⟨c,hop,hc,hargs,hcall⟩:=low_call hlow
    simp only [stp] at h
    split at h
    case h_2=>exact h.elim
    rename_i vs hvs
    have hev:om a (chain C g)→execOp a.eval o=callFunc f vs.toArray:=fun ho=>by
      rw [exec_call hop hc,rds_map hf ho (by rw [hargs];exact hvs)]
    split at h
    · rename_i hk
      obtain ⟨v,h1,h2⟩:=h
      refine quiet hk True v (fun ho=>.inr ?_) h2
      unfold Qt
      rw [hev ho]
      exact (semq_callFunc hcall _).2 (h1 (hf.wf ho ho))
    · rename_i hk
      refine cnd_sound hg hf hd (fun ho kk hr=>.inr ?_) (by rw [hk];simp) (by rw [hk];simp) h
      rw [hev ho]
      refine sem_callFunc hcall _ ?_
      exact CallG.mono hr fun v H' hv=>⟨fun _=>hv.1,hv.2⟩
    · rename_i hk hk2
      refine cnd_sound hg hf hd (fun ho kk hr=>.inr ?_) hk (kindS_call (s:=.call f args) (.inl ⟨f,args,rfl⟩)) h
      rw [hev ho]
      refine sem_callFunc hcall _ ?_
      exact CallG.mono hr fun v H' hv=>⟨fun e=>absurd e hk2,hv⟩
  | callV x args=>
    obtain ⟨c,y,hop,hc,hy,hargs⟩:=low_callV hlow
    simp only [stp] at h
    split at h
    case h_2=>exact h.elim
    rename_i fv vs hfv hvs
    have hev:om a (chain C g)→∀ f fi ca,fv=.func (.func f) fi ca→execOp a.eval o=callFunc f (fi++vs.toArray++ca):=fun ho f fi ca e=>by
      have e1:=hf.rd ho hfv
      rw [← hy,xv_of,e] at e1
      rw [exec_callV hop hc e1,rds_map hf ho (by rw [hargs];exact hvs)]
    split at h
    · rename_i hk
      obtain ⟨v,h1,h2⟩:=h
      refine quiet hk True v (fun ho=>.inr ?_) h2
      obtain ⟨f,fi,ca,e,hcall,hp⟩:=h1 (hf.wf ho ho)
      unfold Qt
      rw [hev ho f fi ca e]
      exact (semq_callFunc hcall _).2 hp
    · rename_i hk
      refine cnd_sound hg hf hd (fun ho kk hr=>.inr ?_) (by rw [hk];simp) (by rw [hk];simp) h
      obtain ⟨f,fi,ca,e,hcall,hp⟩:=hr
      rw [hev ho f fi ca e]
      refine sem_callFunc hcall _ ?_
      exact CallG.mono hp fun v H' hv=>⟨fun _=>hv.1,hv.2⟩
    · rename_i hk hk2
      refine cnd_sound hg hf hd (fun ho kk hr=>.inr ?_) hk (kindS_call (s:=.callV x args) (.inr ⟨x,args,rfl⟩)) h
      obtain ⟨f,fi,ca,e,hcall,hp⟩:=hr
      rw [hev ho f fi ca e]
      refine sem_callFunc hcall _ ?_
      exact CallG.mono hp fun v H' hv=>⟨fun e=>absurd e hk2,hv⟩
  | alloc T z=>
    obtain ⟨hop,zv,hz,rfl⟩:=low_alloc hlow
    simp only [stp] at h
    refine cnd_sound hg hf hd (fun ho kk hr=>.inr (allocP_sem (vf:=fun b=>.pointer (some ⟨b,0,none⟩)) hr fun hh=>?_)) (by simp [kindS];split <;> simp) (by simp [kindS];split <;> simp) h
    refine sem_alloc hop hz fun b h1 h2=>?_
    simpa using hh b h1 h2
  | box T x=>
    obtain ⟨y,hop,rfl⟩:=low_box hlow
    simp only [stp] at h
    split at h
    case h_2=>exact h.elim
    rename_i v hv
    refine cnd_sound hg hf hd (fun ho kk hr=>.inr (allocP_sem (vf:=fun b=>.pointer (some ⟨b,0,none⟩)) hr fun hh=>?_)) (by simp [kindS];split <;> simp) (by simp [kindS];split <;> simp) h
    exact sem_box hop ((hf.Rd ho).ev hv) fun b h1 h2=>hh b h1 h2
  | bslice T len z l=>
    obtain ⟨t,ps,n,zv,hop,hu,hn,hz,h0,h1,h2,hps,rfl⟩:=low_bslice hlow
    simp only [stp] at h
    split at h
    case h_2=>exact h.elim
    rename_i ob out hfl
    refine cnd_sound hg hf hd (fun ho kk hr=>.inr (allocP_sem (vf:=fun b=>.slice (some ⟨b,0,none⟩) len len) hr.2 fun hh=>?_)) (by simp [kindS];split <;> simp) (by simp [kindS];split <;> simp) h
    exact sem_bslice (hf.Rd ho) hop hu hn hz h0 h1 h2 hps hfl hr.1 fun b h1 h2=>hh b h1 h2
  | store n x y=>
    obtain ⟨t,x',y',hop,hn,rfl,rfl⟩:=low_store hlow
    simp only [stp] at h
    split at h
    case h_2=>exact h.elim
    rename_i b off v hx hy
    refine cnd_sound hg hf hd (fun ho kk hr=>.inr ?_) (by simp [kindS]) (by simp [kindS]) h
    obtain ⟨hs,hst⟩:=hr
    split at hst
    case h_2=>exact hst.elim
    rename_i H' hH
    refine sem_store hop hn ((hf.Rd ho).ev hx) ((hf.Rd ho).ev hy) hs hH ?_
    exact ⟨fun e=>(by simp [kindS] at e),hst⟩
  | sbytes T x=>
    obtain ⟨s',d',y,hop,hs',hd',he',rfl⟩:=low_sbytes hlow
    simp only [stp] at h
    split at h
    case h_2=>exact h.elim
    rename_i s hv
    refine cnd_sound hg hf hd (fun ho kk hr=>.inr ?_) (by simp [kindS];split <;> simp) (by simp [kindS];split <;> simp) h
    exact sem_sbytes hop hs' hd' he' ((hf.Rd ho).ev hv) fun k b h1 h2=>⟨fun _=>Hext.new h1,hr k b h1 h2⟩
  | xcall f args=>
    obtain ⟨c,hop,hc,hargs⟩:=low_xcall hlow
    simp only [stp] at h
    split at h
    case h_2=>exact h.elim
    rename_i vs hvs
    obtain ⟨v,h1,h2⟩:=h
    refine quiet rfl True v (fun ho=>.inr ?_) h2
    unfold Qt
    rw [exec_call hop hc,rds_map hf ho (by rw [hargs];exact hvs)]
    exact semq_mono _ _ _ (fun n hn=>by rw [hn];exact rfl) (h1 (hf.wf ho ho))
  | raw oo=>
    obtain rfl:=low_raw hlow
    simp only [stp] at h
    refine cnd_sound hg hf hd (fun ho kk hr=>.inr ?_) (by simp [kindS]) (by simp [kindS]) h
    refine sem_mono _ _ _ _ (fun n H' hn=>?_) (hr a ⟨_,hf⟩ ho)
    have hk:∀ v H',kk v H'→(kindS draw ex g.isSome (.raw oo)=.g→Hext F H H')∧kk v H':=fun v H' hv=>⟨fun e=>(by simp [kindS] at e),hv⟩
    cases n <;> simp only [rawK] at hn ⊢ <;> first | exact hk _ _ hn | exact CallG.mono hn hk | exact hn
  | ef e xs=>
    simp only [stp] at h
    split at h
    case h_2=>exact h.elim
    rename_i vs hvs
    refine cnd_sound hg hf hd (fun ho kk hr=>.inl fun K hK=>?_) (by simp [kindS]) (by simp [kindS]) h
    show sem P F (execOp a.eval o) H _
    refine sem_mono _ _ _ _ (fun n H' hn=>?_) (sem_ef (low_ef hlow) (hf.rds ho hvs) hr)
    cases n <;> simp only [valK] at hn <;> simp only [opK]
    case value v=>obtain ⟨Hc,h1,h2⟩:=hn;exact ⟨Hc,h1,hK _ _ h2⟩
    case skip=>obtain ⟨Hc,h1,h2⟩:=hn;exact ⟨Hc,h1,hK _ _ h2⟩
  | ld n g x=>exact plain (.inl rfl) h
  | bstr x=>exact plain (.inl rfl) h
  | _ => exact plain (by cases draw with
      | false=>exact .inl rfl
      | true=>exact .inr ⟨rfl,fun _ _ _ _=>rfl⟩) h
def lowL (P:Program) (N:Nat) (ops:Array Oper) (draw:Bool) (ex:Nat→Nat):Nat→List Oper→Option (List SO)
  | _,[]=>some []
  | k,o::r=>match lowO P N ops draw (ex k) o,lowL P N ops draw ex (k+1) r with
    | some s,some l=>some (s::l)
    | _,_=>none
theorem svL_sound {ex:Nat→Nat} {K:Fr→Hp→Prop}:∀ {k:Nat} {l:List Oper} {sl:List SO} {U:Fr} {C:Cf} {a:Act} {H:Hp},lowL P N ops draw ex k l=some sl→FOk D N U C a→svL P X₀ F w0 N K sl U C H →
    rvc P X₀ F w0 ops (fun a H=>∃ U,FOk D N U [] a∧K U H) (l.zip (sl.map (·.k))) a H
  | _,[],sl,U,C,a,H,hl,hf,h=>by
    simp only [lowL,Option.some.injEq] at hl
    subst hl
    exact ⟨U,hf.settle,h⟩
  | _,o::r,sl,U,C,a,H,hl,hf,h=>by
    simp only [lowL] at hl
    split at hl
    · rename_i s l' hs hl'
      simp only [Option.some.injEq] at hl
      subst hl
      simp only [svL] at h
      have h1:=stp_sound hs hf h
      simp only [List.map_cons,List.zip_cons_cons,rvc]
      split
      · rename_i hw
        rw [if_pos hw] at h1
        exact kop_mono (fun a' H' ⟨U',C',hf',h'⟩=>svL_sound hl' hf' h') h1
      · rename_i hw
        rw [if_neg hw] at h1
        obtain ⟨U',C',hf',h'⟩:=h1
        exact svL_sound hl' hf' h'
    · cases hl
theorem lowL_len {ex:Nat→Nat}:∀ {k:Nat} {l:List Oper} {sl:List SO},lowL P N ops draw ex k l=some sl→sl.length=l.length
  | _,[],sl,h=>by simp only [lowL,Option.some.injEq] at h;subst h;rfl
  | _,o::r,sl,h=>by
    simp only [lowL] at h
    split at h
    · rename_i s l' hs hl'
      simp only [Option.some.injEq] at h
      subst h
      simp [lowL_len hl']
    · cases h
theorem lowL_get {ex:Nat→Nat}:∀ {k:Nat} {l:List Oper} {sl:List SO},lowL P N ops draw ex k l=some sl→∀ (j:Nat) (o:Oper) (s:SO),l[j]?=some o→sl[j]?=some s→lowO P N ops draw (ex (k+j)) o=some s
  | _,[],sl,h,j,o,s,hj,_=>by simp at hj
  | k,o'::r,sl,h,j,o,s,hj,hs=>by
    simp only [lowL] at h
    split at h
    · rename_i s' l' hs' hl'
      simp only [Option.some.injEq] at h
      subst h
      cases j with
      | zero=>
        simp only [List.getElem?_cons_zero,Option.some.injEq] at hj hs
        subst hj hs
        exact hs'
      | succ j=>
        rw [List.getElem?_cons_succ] at hj hs
        have:=lowL_get hl' j o s hj hs
        rwa [show k+(j+1)=k+1+j by omega]
    · cases h
inductive RT
  | done
  | stop
  | op (s:SO) (r:RT)
  | alt (s:SO) (r o:RT)
def svT (P:Program) (X₀:List Nat) (F:Base) (w0:World) (N:Nat) (K:Fr→Hp→Prop):RT→Fr→Cf→Hp→Prop
  | .done,U,_,H=>K U H
  | .stop,_,_,_=>True
  | .op s r,U,C,H=>stp P X₀ F w0 N s U C H (svT P X₀ F w0 N K r)
  | .alt s r o,U,C,H=>stp P X₀ F w0 N s U C H (svT P X₀ F w0 N K r)∧svT P X₀ F w0 N K o U C H
def kindL (sl:List SO) (i:Nat):Kind:=match sl[i]? with
  | some s=>s.k
  | none=>.e
def pickT (md:Region.Mode) (ops:Array Oper) (kd:Nat→Kind) (listed:Array Bool) (R:List Nat):Option Nat:=
  match R.find? fun k=>(kd k==.q||kd k==.p)&&freeK md ops kd listed k with
  | some k=>some k
  | none=>match R with
    | [k]=>some k
    | _=>none
def altT (md:Region.Mode) (sl:List SO) (mk:Nat→Option RT):List Nat→Option RT
  | []=>some .stop
  | k::R=>match sl[k]?,mk k,altT md sl mk R with
    | some s,some r,some o=>some (.alt s r o)
    | _,_,_=>none
def rtOf (md:Region.Mode) (ops:Array Oper) (sl:List SO):Nat→Array Bool→Option RT
  | 0,listed=>if (Region.ready md ops listed).isEmpty then some .done else none
  | fuel+1,listed=>match Region.ready md ops listed with
    | []=>some .done
    | R => match pickT md ops (kindL sl) listed R with
      | some k=>match sl[k]?,rtOf md ops sl fuel (listed.setIfInBounds k true) with
        | some s,some r=>some (.op s r)
        | _,_=>none
      | none=>altT md sl (fun k=>rtOf md ops sl fuel (listed.setIfInBounds k true)) R
theorem altT_spec {md:Region.Mode} {sl:List SO} {mk:Nat→Option RT} {K:Fr→Hp→Prop}:∀ {R:List Nat} {t:RT},altT md sl mk R=some t→svT P X₀ F w0 N K t U C H →
    ∀ k∈R,∃ s r,sl[k]?=some s∧mk k=some r∧stp P X₀ F w0 N s U C H (svT P X₀ F w0 N K r)
  | [],_,_,_,k,hk=>by cases hk
  | x :: R,t,h,hs,k,hk=>by
    simp only [altT] at h
    split at h
    · rename_i s r o h1 h2 h3
      simp only [Option.some.injEq] at h
      subst h
      simp only [svT] at hs
      rcases List.mem_cons.1 hk with rfl | hk
      · exact ⟨s,r,h1,h2,hs.1⟩
      · exact altT_spec h3 hs.2 k hk
    · cases h
theorem svT_sound {md:Region.Mode} {sl:List SO} {ex:Nat→Nat} {K:Fr→Hp→Prop} (hsel:Region.noSelect ops=true) (hlow:∀ (j:Nat) (o:Oper) (s:SO),ops[j]?=some o→sl[j]?=some s→lowO P N ops draw (ex j) o=some s) :
    ∀ {fuel:Nat} {listed:Array Bool} {t:RT} {U:Fr} {C:Cf} {a:Act} {H:Hp},Closed md ops listed→rtOf md ops sl fuel listed=some t→FOk D N U C a→svT P X₀ F w0 N K t U C H →
      anyC P X₀ F w0 md ops (kindL sl) (fun a H=>∃ U,FOk D N U [] a∧K U H) fuel listed a H
  | 0,listed,t,U,C,a,H,hcl,hl,hf,h=>by
    simp only [rtOf] at hl
    split at hl
    · rename_i he
      simp only [Option.some.injEq] at hl
      subst hl
      exact ⟨by simpa using he,U,hf.settle,h⟩
    · cases hl
  | fuel + 1, listed,t,U,C,a,H,hcl,hl,hf,h=>by
    have step:∀ (k:Nat) (s:SO) (r:RT) (U:Fr) (C:Cf) (a:Act) (H:Hp),k∈Region.ready md ops listed→sl[k]?=some s→rtOf md ops sl fuel (listed.setIfInBounds k true)=some r→FOk D N U C a →
        stp P X₀ F w0 N s U C H (svT P X₀ F w0 N K r)→cOp P X₀ F w0 ops (kindL sl) k (anyC P X₀ F w0 md ops (kindL sl) (fun a H=>∃ U,FOk D N U [] a∧K U H) fuel (listed.setIfInBounds k true)) a H:=fun k s r U C a H hk hs hr hf h=>by
      obtain ⟨_,o,ho,_⟩:=mem_ready.1 hk
      have h1:=stp_sound (hlow k o s ho hs) hf h
      have hkd:kindL sl k=s.k:=by simp [kindL,hs]
      unfold cOp
      simp only [ho,hkd]
      split
      · rename_i hw
        rw [if_pos hw] at h1
        exact kop_mono (fun a' H' ⟨U',C',hf',h'⟩=>svT_sound hsel hlow (hcl.set hk) hr hf' h') h1
      · rename_i hw
        rw [if_neg hw] at h1
        obtain ⟨U',C',hf',h'⟩:=h1
        exact svT_sound hsel hlow (hcl.set hk) hr hf' h'
    simp only [rtOf] at hl
    split at hl
    · rename_i hr
      simp only [Option.some.injEq] at hl
      subst hl
      refine ⟨fun _=>⟨U,hf.settle,h⟩,fun i hi=>?_⟩
      rw [hr] at hi;cases hi
    · rename_i hne
      split at hl
      · rename_i k hpk
        split at hl
        case h_2=>cases hl
        rename_i s r hs hr
        simp only [Option.some.injEq] at hl
        subst hl
        simp only [svT] at h
        unfold pickT at hpk
        split at hpk
        · rename_i k' hfd
          simp only [Option.some.injEq] at hpk
          subst hpk
          have hc:=List.mem_of_find?_eq_some hfd
          have hq:=List.find?_some hfd
          simp only [Bool.and_eq_true,Bool.or_eq_true,beq_iff_eq] at hq
          obtain ⟨_,o,ho,_⟩:=mem_ready.1 hc
          have h1:=stp_sound (hlow k' o s ho hs) hf h
          have hkd:kindL sl k'=s.k:=by simp [kindL,hs]
          have hy:∃ v,YieldsC P F ops (kindL sl k') o v a H∧Kr D N (svT P X₀ F w0 N K r) (a.put o.dst v) H:=by
            by_cases hw:Region.wanted o (yielded ops a.tmps)=true
            · rw [if_pos hw,← hkd] at h1
              rcases hq.1 with hq' | hq' <;>
              · rw [hq'] at h1
                obtain ⟨v,h2,h3⟩:=h1
                exact ⟨v,.inl ⟨hw,by rw [hq'];exact h2⟩,h3⟩
            · rw [if_neg hw] at h1
              exact ⟨undef,.inr ⟨by simpa using hw,rfl⟩,h1⟩
          obtain ⟨v,hy,U',C',hf',h'⟩:=hy
          exact anyC_first hq.1 ho (Region.noSelect_spec hsel) fuel listed a H (freeK_spec ho hq.2) hcl hc hy (svT_sound hsel hlow (hcl.set hc) hr hf' h')
        · split at hpk
          · rename_i k' heq
            simp only [Option.some.injEq] at hpk
            subst hpk
            refine ⟨fun h=>(by rw [h] at heq;cases heq),fun i hi=>?_⟩
            have hi':=hi
            rw [heq] at hi'
            obtain rfl:=List.mem_singleton.1 hi'
            exact step _ s r U C a H hi hs hr hf h
          · cases hpk
      · refine ⟨fun h=>absurd h hne,fun i hi=>?_⟩
        obtain ⟨s,r,hs,hr,h'⟩:=altT_spec hl h i hi
        exact step i s r U C a H hi hs hr hf h'
end
end Go.Eng
namespace Go.Eng
open Go
inductive SC
  | skip
  | reg (l:List SO)
  | tree (t:RT)
  | seq (a b:SC)
  | cond (c:X) (a b:SC)
  | block (id:Nat) (b:SC)
  | loop (b:SC)
  | scope (l:Nat) (a b:SC)
  | exit (id:Nat)
  | ret
def exOf (ov:List Nat) (id i:Nat):Nat:=if ov.contains (id * 10000+i * 10+1) then 1 else if ov.contains (id * 10000+i * 10+2) then 2 else 0
def labs:Code→List Nat
  | .label l=>[l]
  | .seq a b=>labs a++labs b
  | _=>[]
mutual
def lowC (P:Program) (N:Nat) (ov:List Nat):Code→Option SC
  | .skip=>some .skip
  | .region id ops draw=>match lowL P N ops draw (exOf ov id) 0 ops.toList with
    | some sl=>if !draw||lexOk (ops.toList.zip (sl.map (·.k))) then some (.reg sl) else
        if Region.noSelect ops then (rtOf .any ops sl ops.size (Array.replicate ops.size false)).map .tree else none
    | none=>none
  | .seq a b=>match lowC P N ov a,lowC P N ov b with
    | some x,some y=>some (.seq x y)
    | _,_=>none
  | .cond c a b=>match lowC P N ov a,lowC P N ov b with
    | some x,some y=>some (.cond (X.of c) x y)
    | _,_=>none
  | .block id b=>if id < 1000000 then (lowC P N ov b).map (.block id) else none
  | .loop b=>(lowC P N ov b).map .loop
  | .exit id=>if id < 1000000 then some (.exit id) else none
  | .ret=>some .ret
  | .label _=>some .skip
  | .goto l=>some (.exit (1000000+l))
  | .scope c=>match labs c with
    | [l]=>match lowC P N ov c,lowAt P N ov c l with
      | some a,some b=>some (.scope l a b)
      | _,_=>none
    | _=>none
  | _=>none
def lowAt (P:Program) (N:Nat) (ov:List Nat):Code→Nat→Option SC
  | .seq a b,l=>match findLabel a l with
    | some _=>match lowAt P N ov a l,lowC P N ov b with
      | some x,some y=>some (.seq x y)
      | _,_=>none
    | none=>lowAt P N ov b l
  | .label l',l=>if l'==l then some .skip else none
  | _,_=>none
end
inductive Ex
  | n
  | x (id:Nat)
  | r
def Le:Fr→Fr→Prop
  | [],_=>True
  | (s,some v)::r,U=>lkU U s=some v∧Le r U
  | (_,none)::r,U=>Le r U
def HLe:Hp→Hp→Prop
  | [],_=>True
  | (b,o)::r,H=>lk H b=some o∧HLe r H
def LoopI (body:Fr→Hp→(Ex→Fr→Hp→Prop)→Prop) (U:Fr) (H:Hp) (Q:Ex→Fr→Hp→Prop):Prop:=
  ∃ (α:Type) (I:α→Prop) (fr:α→Fr) (hp:α→Hp) (μ:α→Nat),(∃ x,I x∧Le (fr x) U∧HLe (hp x) H) ∧
    ∀ x,I x→body (fr x) (hp x) (fun e U' H'=>match e with
      | .n=>∃ y,I y∧μ y < μ x∧Le (fr y) U'∧HLe (hp y) H'
      | e=>Q e U' H')
def LoopR (body:Fr→Hp→(Ex→Fr→Hp→Prop)→Prop) (Q:Ex→Fr→Hp→Prop):Nat→Fr→Hp→Prop
  | 0,_,_=>False
  | n + 1,U,H=>body U H (fun e U' H'=>match e with
      | .n=>LoopR body Q n U' H'
      | e=>Q e U' H')
def LoopG (body:Fr→Hp→(Ex→Fr→Hp→Prop)→Prop) (U:Fr) (H:Hp) (Q:Ex→Fr→Hp→Prop):Prop:=LoopI body U H Q∨∃ n,LoopR body Q n U H
def jq (l:Nat) (R:Fr→Hp→Prop) (Q:Ex→Fr→Hp→Prop):Ex→Fr→Hp→Prop
  | .x id,U,H=>if id=1000000+l then R U H else Q (.x id) U H
  | e,U,H=>Q e U H
def JmpG (l:Nat) (body:Fr→Hp→(Ex→Fr→Hp→Prop)→Prop) (Q:Ex→Fr→Hp→Prop) (U:Fr) (H:Hp):Prop:=
  ∃ (α:Type) (I:α→Prop) (fr:α→Fr) (hp:α→Hp) (μ:α→Nat),(∃ x,I x∧Le (fr x) U∧HLe (hp x) H) ∧
    ∀ x,I x→body (fr x) (hp x) (jq l (fun U' H'=>∃ y,I y∧μ y < μ x∧Le (fr y) U'∧HLe (hp y) H') Q)
def TreeG (walk:(Fr→Hp→Prop)→Prop) (Q:Fr→Hp→Prop):Prop:=
  ∃ K:Fr→Hp→Prop,walk K∧∀ U H,K U H→Q U H∨∃ fr hp,Le fr U∧HLe hp H∧Q fr hp
def svc (P:Program) (X₀:List Nat) (F:Base) (w0:World) (N:Nat):SC→Fr→Hp→(Ex→Fr→Hp→Prop)→Prop
  | .skip,U,H,Q=>Q .n U H
  | .reg l,U,H,Q=>svL P X₀ F w0 N (fun U H=>Q .n U H) l U [] H
  | .tree t,U,H,Q=>TreeG (fun K=>svT P X₀ F w0 N K t U [] H) (fun U H=>Q .n U H)
  | .seq a b,U,H,Q=>svc P X₀ F w0 N a U H (fun e U H=>match e with
      | .n=>svc P X₀ F w0 N b U H Q
      | e=>Q e U H)
  | .cond c a b,U,H,Q=>match rd U [] [] c with
    | some (.bool p)=>(p=true→svc P X₀ F w0 N a U H Q)∧(p=false→svc P X₀ F w0 N b U H Q)
    | _=>False
  | .block id b,U,H,Q=>svc P X₀ F w0 N b U H (fun e U H=>match e with
      | .x id'=>if id'=id then Q .n U H else Q (.x id') U H
      | e=>Q e U H)
  | .loop b,U,H,Q=>LoopG (svc P X₀ F w0 N b) U H Q
  | .scope l a b,U,H,Q=>svc P X₀ F w0 N a U H (jq l (JmpG l (svc P X₀ F w0 N b) Q) Q)
  | .exit id,U,H,Q=>Q (.x id) U H
  | .ret,U,H,Q=>Q .r U H
def toE:Ex→Exit
  | .n=>.normal
  | .x id=>if id < 1000000 then .exit id else .goto (id - 1000000)
  | .r=>.ret
theorem toE_x {id:Nat} (h:id < 1000000):toE (.x id)=.exit id:=if_pos h
theorem toE_g {l:Nat}:toE (.x (1000000+l))=.goto l:=by
  simp only [toE]
  rw [if_neg (by omega),show 1000000+l - 1000000=l by omega]
section
variable {D:List Deferred} {P:Program} {X₀:List Nat} {F:Base} {w0:World} {N:Nat} {ov:List Nat}
theorem Le.lk {fr U:Fr} (h:Le fr U) {s:Nat} {v:Value} (hl:lkU fr s=some v):lkU U s=some v:=by
  induction fr with
  | nil=>cases hl
  | cons x r ih=>
    obtain ⟨s',v'⟩:=x
    simp only [lkU] at hl
    cases v' with
    | none=>
      simp only [Le] at h
      split at hl
      · cases hl
      · exact ih h hl
    | some v'=>
      simp only [Le] at h
      split at hl
      · rename_i e;subst e;simp only [Option.some.injEq] at hl;subst hl;exact h.1
      · exact ih h.2 hl
theorem FOk.le {fr U:Fr} {a:Act} (hf:FOk D N U [] a) (h:Le fr U):FOk D N fr [] a:=
  ⟨hf.defers,hf.size,fun s v hl=>hf.u s v (h.lk hl),fun _ _ _ hl=>by cases hl⟩
theorem HLe.mem {H' H:Hp} (h:HLe H' H):∀ e∈H',e∈H:=by
  induction H' with
  | nil=>intro e he;cases he
  | cons x r ih=>
    obtain ⟨b,o⟩:=x
    intro e he
    rcases List.mem_cons.1 he with he | he
    · subst he;exact lk_mem h.1
    · exact ih h.2 e he
def QOk (D:List Deferred) (X₀:List Nat) (F:Base) (w0:World) (N:Nat) (Q:Ex→Fr→Hp→Prop) (Q':Exit→Act→World→Prop):Prop:=
  ∀ e U H a w,FOk D N U [] a→Sat X₀ F w0 H w→Q e U H→Q' (toE e) a w
theorem zip_fst {α β:Type}:∀ (l:List α) (m:List β),m.length=l.length→(l.zip m).map (·.1)=l
  | [],_,_=>rfl
  | x::l,[],h=>by simp at h
  | x::l,y::m,h=>by simp only [List.zip_cons_cons,List.map_cons];rw [zip_fst l m (by simpa using h)]
def Snd (D:List Deferred) (P:Program) (X₀:List Nat) (F:Base) (w0:World) (N:Nat) (ov:List Nat) (c:Code):Prop:=∀ (sc:SC) (U:Fr) (H:Hp) (Q:Ex→Fr→Hp→Prop) (Q':Exit→Act→World→Prop) (a:Act) (w:World),
    lowC P N ov c=some sc→QOk D X₀ F w0 N Q Q'→FOk D N U [] a→Sat X₀ F w0 H w→svc P X₀ F w0 N sc U H Q→c.wp P Q' a w
theorem then_x {Q':Exit→Act→World→Prop} {B:Act→World→Prop} {id:Nat} {a:Act} {w:World} (h:Q' (toE (.x id)) a w):Exit.then B Q' (toE (.x id)) a w:=by
  by_cases h2:id < 1000000
  · rw [toE_x h2] at h ⊢;exact h
  · obtain ⟨l',rfl⟩:∃ l,id=1000000+l:=⟨id - 1000000,by omega⟩
    rw [toE_g] at h ⊢;exact h
theorem x_ok {Q:Ex→Fr→Hp→Prop} {Q':Exit→Act→World→Prop} {B:Act→World→Prop} {id:Nat} {U:Fr} {H:Hp} {a:Act} {w:World} (hQ:QOk D X₀ F w0 N Q Q') (hf:FOk D N U [] a) (hs:Sat X₀ F w0 H w) (h:Q (.x id) U H):Exit.then B Q' (toE (.x id)) a w:=by
  have:=hQ (.x id) _ _ _ _ hf hs h
  by_cases h2:id < 1000000
  · rw [toE_x h2] at this ⊢;exact this
  · obtain ⟨l',rfl⟩:∃ l,id=1000000+l:=⟨id - 1000000,by omega⟩
    rw [toE_g] at this ⊢;exact this
theorem snd_skip:Snd D P X₀ F w0 N ov .skip:=by
  intro sc U H Q Q' a w hl hQ hf hs h
  simp only [lowC,Option.some.injEq] at hl
  subst hl
  exact wp_skip (hQ .n _ _ _ _ hf hs h)
theorem snd_seq {x y:Code} (ihx:Snd D P X₀ F w0 N ov x) (ihy:Snd D P X₀ F w0 N ov y):Snd D P X₀ F w0 N ov (.seq x y):=by
  intro sc U H Q Q' a w hl hQ hf hs h
  simp only [lowC] at hl
  split at hl
  case h_2=>cases hl
  rename_i sx sy hx hy
  simp only [Option.some.injEq] at hl
  subst hl
  simp only [svc] at h
  refine wp_seq (ihx _ _ _ _ _ a w hx ?_ hf hs h)
  intro e U' H' a' w' hf' hs' hq
  cases e with
  | n=>exact ihy _ _ _ _ _ a' w' hy hQ hf' hs' hq
  | x id=>exact x_ok hQ hf' hs' hq
  | r=>exact hQ .r _ _ _ _ hf' hs' hq
theorem low_at:∀ (c:Code) (l:Nat) (r:SC),lowAt P N ov c l=some r→∃ rest,findLabel c l=some rest∧lowC P N ov rest=some r:=by
  intro c
  induction c with
  | seq a b iha ihb=>
    intro l r h
    simp only [lowAt] at h
    cases hf:findLabel a l with
    | some ra=>
      simp only [hf] at h
      split at h
      case h_2=>cases h
      rename_i x y hx hy
      simp only [Option.some.injEq] at h
      subst h
      obtain ⟨rest,h1,h2⟩:=iha l x hx
      rw [hf] at h1
      obtain rfl:=Option.some.inj h1
      exact ⟨.seq ra b,by simp only [findLabel,hf],by simp only [lowC,h2,hy]⟩
    | none=>
      simp only [hf] at h
      obtain ⟨rest,h1,h2⟩:=ihb l r h
      exact ⟨rest,by simp only [findLabel,hf,h1],h2⟩
  | label l'=>
    intro l r h
    simp only [lowAt] at h
    split at h
    · rename_i he
      simp only [Option.some.injEq] at h
      subst h
      exact ⟨.skip,by simp only [findLabel,he,if_true],by simp only [lowC]⟩
    · cases h
  | _=>intro l r h;simp only [lowAt] at h;cases h
theorem lab_none:∀ (c:Code) (l:Nat),l∉labs c→findLabel c l=none:=by
  intro c
  induction c with
  | seq a b iha ihb=>
    intro l h
    simp only [labs,List.mem_append,not_or] at h
    simp only [findLabel,iha l h.1,ihb l h.2]
  | label l'=>
    intro l h
    simp only [labs,List.mem_singleton] at h
    simp only [findLabel]
    rw [if_neg (by simpa using Ne.symm h)]
  | _=>intro l h;simp only [findLabel]
def jumpL (l:Nat) (J:Act→World→Prop) (Q:Exit→Act→World→Prop):Exit→Act→World→Prop
  | .goto l',a,w=>if l'=l then J a w else Q (.goto l') a w
  | e,a,w=>Q e a w
theorem wp_scope_ghost {c rest:Code} {a:Act} {w:World} {Q:Exit→Act→World→Prop} (l:Nat) (J:Nat→Act→World→Prop) (hf:findLabel c l=some rest) (hn:∀ l',l'≠l→findLabel c l'=none)
    (first:c.wp P (jumpL l (fun a w=>∃ n,J n a w) Q) a w)
    (pass:∀ n a w,J n a w→rest.wp P (jumpL l (fun a' w'=>∃ m,m < n∧J m a' w') Q) a w):(Code.scope c).wp P Q a w:=by
  intro b k cs
  have hg:gotoIn l (.inScope c::k)=some (.code rest::.inScope c::k):=by simp [gotoIn,hf]
  have key:∀ n a w,J n a w→∃ e a' w',Q e a' w'∧Arrives P (lone (b.at a (.code rest::.inScope c::k)) cs w) b k cs e a' w':=by
    intro n
    induction n using Nat.strongRecOn with
    | _ n ih=>
      intro a w hJ
      obtain ⟨e,a₁,w₁,hq,harr⟩:=pass n a w hJ b (.inScope c::k) cs
      cases e with
      | normal=>exact ⟨.normal,a₁,w₁,hq,Steps.trans harr (.one step_inScope)⟩
      | exit id=>exact ⟨.exit id,a₁,w₁,hq,fun k' hk=>harr k' (by simp [exitTo,hk])⟩
      | goto l'=>
        by_cases hl:l'=l
        · subst hl
          simp only [jumpL,if_true] at hq
          obtain ⟨m,hlt,hJ'⟩:=hq
          obtain ⟨e₂,a₂,w₂,hq₂,harr₂⟩:=ih m hlt a₁ w₁ hJ'
          exact ⟨e₂,a₂,w₂,hq₂,.of_steps (harr _ hg) harr₂⟩
        · simp only [jumpL,hl,if_false] at hq
          exact ⟨.goto l',a₁,w₁,hq,fun k' hk=>harr k' (by simp [gotoIn,hn l' hl,hk])⟩
      | ret=>exact ⟨_,a₁,w₁,hq,harr⟩
      | panic ch=>exact ⟨_,a₁,w₁,hq,harr⟩
      | outgrown=>exact ⟨_,a₁,w₁,hq,harr⟩
  obtain ⟨e,a₁,w₁,hq,harr⟩:=first b (.inScope c::k) cs
  cases e with
  | normal=>exact ⟨.normal,a₁,w₁,hq,.head step_scope (Steps.trans harr (.one step_inScope))⟩
  | exit id=>exact ⟨.exit id,a₁,w₁,hq,fun k' hk=>.head step_scope (harr k' (by simp [exitTo,hk]))⟩
  | goto l'=>
    by_cases hl:l'=l
    · subst hl
      simp only [jumpL,if_true] at hq
      obtain ⟨n,hJ'⟩:=hq
      obtain ⟨e₂,a₂,w₂,hq₂,harr₂⟩:=key n a₁ w₁ hJ'
      exact ⟨e₂,a₂,w₂,hq₂,.of_steps (.head step_scope (harr _ hg)) harr₂⟩
    · simp only [jumpL,hl,if_false] at hq
      exact ⟨.goto l',a₁,w₁,hq,fun k' hk=>.head step_scope (harr k' (by simp [gotoIn,hn l' hl,hk]))⟩
  | ret=>exact ⟨_,a₁,w₁,hq,.of_steps (.one step_scope) harr⟩
  | panic ch=>exact ⟨_,a₁,w₁,hq,.of_steps (.one step_scope) harr⟩
  | outgrown=>exact ⟨_,a₁,w₁,hq,.of_steps (.one step_scope) harr⟩
theorem jq_ok {Q:Ex→Fr→Hp→Prop} {Q':Exit→Act→World→Prop} {l:Nat} {R:Fr→Hp→Prop} {J:Act→World→Prop} (hQ:QOk D X₀ F w0 N Q Q') (hR:∀ U H a w,FOk D N U [] a→Sat X₀ F w0 H w→R U H→J a w) :
    QOk D X₀ F w0 N (jq l R Q) (jumpL l J Q'):=by
  intro e U H a w hf hs h
  cases e with
  | n=>exact hQ .n _ _ _ _ hf hs h
  | r=>exact hQ .r _ _ _ _ hf hs h
  | x id=>
    simp only [jq] at h
    by_cases h1:id=1000000+l
    · subst h1
      simp only [if_true] at h
      rw [toE_g]
      simp only [jumpL,if_true]
      exact hR _ _ _ _ hf hs h
    · simp only [h1,if_false] at h
      have:=hQ (.x id) _ _ _ _ hf hs h
      by_cases h2:id < 1000000
      · rw [toE_x h2] at this ⊢;exact this
      · obtain ⟨l',rfl⟩:∃ l,id=1000000+l:=⟨id - 1000000,by omega⟩
        rw [toE_g] at this ⊢
        simp only [jumpL]
        rw [if_neg (by omega)]
        exact this
theorem snd_all (hm:P.follows .mixedOrders=true):∀ c:Code,Snd D P X₀ F w0 N ov c∧∀ l rest,findLabel c l=some rest→Snd D P X₀ F w0 N ov rest:=by
  intro c
  induction c with
  | skip=>exact ⟨snd_skip,fun l rest h=>by simp only [findLabel] at h;cases h⟩
  | region id ops draw=>
    refine ⟨?_,fun l rest h=>by simp only [findLabel] at h;cases h⟩
    intro sc U H Q Q' a w hl hQ hf hs h
    simp only [lowC] at hl
    split at hl
    case h_2=>cases hl
    rename_i sl hsl
    split at hl
    · rename_i hlex
      simp only [Option.some.injEq] at hl
      subst hl
      simp only [svc] at h
      have e1:(ops.toList.zip (sl.map (·.k))).map (·.1)=ops.toList:=zip_fst _ _ (by simp [lowL_len hsl])
      have e2:((ops.toList.zip (sl.map (·.k))).map (·.1)).toArray=ops:=by rw [e1]
      have:=wp_region_rvc (P:=P) (X:=X₀) (F:=F) (w0:=w0) (id:=id) (draw:=draw) (l:=ops.toList.zip (sl.map (·.k))) (a:=a) (H:=H) (w:=w) (Q:=Q')
        (K:=fun a H=>∃ U,FOk D N U [] a∧Q .n U H) (fun a H w hs ⟨U,hf,hq⟩=>hQ .n U H a w hf hs hq) hm (fun hd=>by subst hd;simpa using hlex)
        (by rw [e2];exact svL_sound hsl hf h) hs
      rw [e2] at this
      exact this
    · rename_i hlex
      have hd:draw=true:=by cases draw <;> simp_all
      subst hd
      split at hl
      case isFalse=>cases hl
      rename_i hsel
      obtain ⟨t,ht,rfl⟩:=Option.map_eq_some_iff.1 hl
      simp only [svc] at h
      refine wp_region_any hm ?_
      obtain ⟨K,h,hK⟩:=h
      have:=svT_sound (K:=K) hsel (fun j o s hj hs=>by
        have:=lowL_get hsl j o s (by simpa using hj) hs
        rwa [Nat.zero_add] at this) (Closed.none _) ht hf h
      have h2:=wpAny_of_anyC (Q:=Q') (fun a H w hs ⟨U,hf,hq⟩=>by
        rcases hK U H hq with hq | ⟨fr,hp,h1,h2,hq⟩
        · exact hQ .n U H a w hf hs hq
        · exact hQ .n fr hp a w (hf.le h1) (hs.less h2.mem) hq) _ _ _ _ _ this (hs.drew (w.drawn+1))
      simpa using h2
  | seq x y ihx ihy=>
    refine ⟨snd_seq ihx.1 ihy.1,fun l rest h=>?_⟩
    simp only [findLabel] at h
    cases hx:findLabel x l with
    | some rx=>
      simp only [hx,Option.some.injEq] at h
      subst h
      exact snd_seq (ihx.2 l rx hx) ihy.1
    | none=>
      simp only [hx] at h
      exact ihy.2 l rest h
  | cond cc x y ihx ihy=>
    refine ⟨?_,fun l rest h=>by simp only [findLabel] at h;cases h⟩
    replace ihx:=ihx.1
    replace ihy:=ihy.1
    intro sc U H Q Q' a w hl hQ hf hs h
    simp only [lowC] at hl
    split at hl
    case h_2=>cases hl
    rename_i sx sy hx hy
    simp only [Option.some.injEq] at hl
    subst hl
    simp only [svc] at h
    split at h
    case h_2=>exact h.elim
    rename_i p hp
    have e1:=hf.rd (G:=[]) (fun l hl=>by cases hl) hp
    rw [xv_of] at e1
    refine wp_cond_split e1 (fun ht=>ihx _ _ _ _ _ a w hx hQ hf hs (h.1 ht)) (fun ht=>ihy _ _ _ _ _ a w hy hQ hf hs (h.2 ht))
  | block id b ih=>
    refine ⟨?_,fun l rest h=>by simp only [findLabel] at h;cases h⟩
    intro sc U H Q Q' a w hl hQ hf hs h
    simp only [lowC] at hl
    split at hl
    case isFalse=>cases hl
    rename_i hid
    obtain ⟨sb,hb,rfl⟩:=Option.map_eq_some_iff.1 hl
    simp only [svc] at h
    refine wp_block (ih.1 _ _ _ _ _ a w hb ?_ hf hs h)
    intro e U' H' a' w' hf' hs' hq
    cases e with
    | n=>exact hQ .n _ _ _ _ hf' hs' hq
    | x id'=>
      simp only at hq
      by_cases h1:id'=id
      · rw [toE_x (by omega)]
        simp only [Exit.inBlock,h1,if_true] at hq ⊢;exact hQ .n _ _ _ _ hf' hs' hq
      · simp only [h1,if_false] at hq
        have:=hQ (.x id') _ _ _ _ hf' hs' hq
        by_cases h2:id' < 1000000
        · rw [toE_x h2] at this ⊢
          simp only [Exit.inBlock,h1,if_false];exact this
        · obtain ⟨l,rfl⟩:∃ l,id'=1000000+l:=⟨id' - 1000000,by omega⟩
          rw [toE_g] at this ⊢;exact this
    | r=>exact hQ .r _ _ _ _ hf' hs' hq
  | loop b ih=>
    refine ⟨?_,fun l rest h=>by simp only [findLabel] at h;cases h⟩
    replace ih:=ih.1
    intro sc U H Q Q' a w hl hQ hf hs h
    simp only [lowC,Option.map_eq_some_iff] at hl
    obtain ⟨sb,hb,rfl⟩:=hl
    simp only [svc] at h
    rcases h with h | ⟨n,h⟩
    case inr=>
      have key:∀ n U H a w,FOk D N U [] a→Sat X₀ F w0 H w→LoopR (svc P X₀ F w0 N sb) Q n U H→Code.rounds P b Q' n a w:=by
        intro n
        induction n with
        | zero=>intro U H a w _ _ h;exact h.elim
        | succ n ihn=>
          intro U H a w hf hs h
          simp only [LoopR] at h
          rw [rounds_succ]
          refine ih _ _ _ _ _ a w hb ?_ hf hs h
          intro e U' H' a' w' hf' hs' hq
          cases e with
          | n=>exact ihn _ _ _ _ hf' hs' hq
          | x id=>exact x_ok hQ hf' hs' hq
          | r=>exact hQ .r _ _ _ _ hf' hs' hq
      exact wp_loop_rounds n (key n U H a w hf hs h)
    obtain ⟨α,I,fr,hp,μ,⟨x0,hI0,hU0,hH0⟩,hround⟩:=h
    refine wp_loop_ghost (fun n a w=>∃ x,I x∧μ x=n∧FOk D N (fr x) [] a∧Sat X₀ F w0 (hp x) w) (μ x0) ⟨x0,hI0,rfl,hf.le hU0,hs.less hH0.mem⟩ ?_
    rintro n a w ⟨x,hI,rfl,hf,hs⟩
    refine ih _ _ _ _ _ a w hb ?_ hf hs (hround x hI)
    intro e U' H' a' w' hf' hs' hq
    cases e with
    | n=>
      obtain ⟨y,hy,hlt,hU,hH⟩:=hq
      exact ⟨μ y,hlt,y,hy,rfl,hf'.le hU,hs'.less hH.mem⟩
    | x id=>exact x_ok hQ hf' hs' hq
    | r=>exact hQ .r _ _ _ _ hf' hs' hq
  | exit id=>
    refine ⟨?_,fun l rest h=>by simp only [findLabel] at h;cases h⟩
    intro sc U H Q Q' a w hl hQ hf hs h
    simp only [lowC] at hl
    split at hl
    case isFalse=>cases hl
    rename_i hid
    simp only [Option.some.injEq] at hl
    subst hl
    have:=hQ (.x id) _ _ _ _ hf hs h
    rw [toE_x hid] at this
    exact wp_exit this
  | ret=>
    refine ⟨?_,fun l rest h=>by simp only [findLabel] at h;cases h⟩
    intro sc U H Q Q' a w hl hQ hf hs h
    simp only [lowC,Option.some.injEq] at hl
    subst hl
    exact wp_ret (hQ .r _ _ _ _ hf hs h)
  | label l'=>
    refine ⟨?_,fun l rest h=>?_⟩
    · intro sc U H Q Q' a w hl hQ hf hs h
      simp only [lowC,Option.some.injEq] at hl
      subst hl
      exact wp_label (hQ .n _ _ _ _ hf hs h)
    · simp only [findLabel] at h
      split at h
      · simp only [Option.some.injEq] at h
        subst h
        exact snd_skip
      · cases h
  | goto l'=>
    refine ⟨?_,fun l rest h=>by simp only [findLabel] at h;cases h⟩
    intro sc U H Q Q' a w hl hQ hf hs h
    simp only [lowC,Option.some.injEq] at hl
    subst hl
    have:=hQ (.x (1000000+l')) _ _ _ _ hf hs h
    rw [toE_g] at this
    exact wp_goto this
  | scope c ih=>
    refine ⟨?_,fun l rest h=>by simp only [findLabel] at h;cases h⟩
    intro sc U H Q Q' a w hl hQ hf hs h
    simp only [lowC] at hl
    split at hl
    case h_2=>cases hl
    rename_i l hlab
    split at hl
    case h_2=>cases hl
    rename_i sa sb ha hb
    simp only [Option.some.injEq] at hl
    subst hl
    simp only [svc] at h
    obtain ⟨rest,hr,hlr⟩:=low_at c l sb hb
    refine wp_scope_ghost l (fun n a w=>∃ (α:Type) (I:α→Prop) (fr:α→Fr) (hp:α→Hp) (μ:α→Nat) (x:α),I x∧μ x=n∧FOk D N (fr x) [] a∧Sat X₀ F w0 (hp x) w∧∀ x,I x→svc P X₀ F w0 N sb (fr x) (hp x) (jq l (fun U' H'=>∃ y,I y∧μ y < μ x∧Le (fr y) U'∧HLe (hp y) H') Q)) hr (fun l' hne=>lab_none c l' (by rw [hlab];simpa using hne)) ?_ ?_
    · refine ih.1 _ _ _ _ _ a w ha (jq_ok hQ ?_) hf hs h
      rintro U H a w hf hs ⟨α,I,fr,hp,μ,⟨x,hI,hU,hH⟩,hround⟩
      exact ⟨μ x,α,I,fr,hp,μ,x,hI,rfl,hf.le hU,hs.less hH.mem,hround⟩
    · rintro n a w ⟨α,I,fr,hp,μ,x,hI,rfl,hf,hs,hround⟩
      refine ih.2 l rest hr _ _ _ _ _ a w hlr (jq_ok hQ ?_) hf hs (hround x hI)
      rintro U H a w hf hs ⟨y,hy,hlt,hU,hH⟩
      exact ⟨μ y,hlt,α,I,fr,hp,μ,y,hy,rfl,hf.le hU,hs.less hH.mem,hround⟩
  | _=>exact ⟨fun sc U H Q Q' a w hl=>(by simp only [lowC] at hl;cases hl),fun l rest h=>(by simp only [findLabel] at h;cases h)⟩
theorem svc_sound (hm:P.follows .mixedOrders=true):∀ (c:Code) (sc:SC) (U:Fr) (H:Hp) (Q:Ex→Fr→Hp→Prop) (Q':Exit→Act→World→Prop) (a:Act) (w:World),
    lowC P N ov c=some sc→QOk D X₀ F w0 N Q Q'→FOk D N U [] a→Sat X₀ F w0 H w→svc P X₀ F w0 N sc U H Q→c.wp P Q' a w:=fun c=>(snd_all hm c).1
inductive RV
  | t (n:Nat)
  | cell (a n:Nat) (agg:Bool)
def lowR (P:Program):List ResultVar→Option (List RV)
  | []=>some []
  | .tmp t::r=>(lowR P r).map (.t t::·)
  | .cell a t::r=>match szO P t,aggB P t,lowR P r with
    | some n,some g,some l=>some (.cell a n g::l)
    | _,_,_=>none
def resL (F:Base) (H:Hp) (U:Fr):List RV→Option (List Value)
  | []=>some []
  | .t n::r=>match lkU U n,resL F H U r with
    | some v,some l=>some (v::l)
    | _,_=>none
  | .cell a n g::r=>match lkU U a,resL F H U r with
    | some (.pointer (some ⟨b,off,none⟩)),some l=>match cellsAt F H b off n with
      | some cs=>if g then some (.agg cs.toArray::l) else match cs with
        | [v]=>some (v::l)
        | _=>none
      | none=>none
    | _,_=>none
def resV:List Value→Value
  | [v]=>v
  | l=>.tuple l.toArray
theorem semq_run {α:Type} {H:Hp} {w:World} (hs:Sat X₀ F w0 H w) (s:Sem α):∀ (K:α→Prop),semq P F H s K→∃ x,s.run P w=.ok x w∧K x:=by
  induction s with
  | pure a=>exact fun K h=>⟨a,rfl,h⟩
  | load m a k ih=>
    intro K h
    simp only [semq] at h
    split at h
    · rename_i v hv
      simp only [Sem.run,hs.cell hv]
      exact ih _ _ h
    · exact h.elim
  | shape r k ih=>
    intro K h
    simp only [semq] at h
    split at h
    · rename_i o ho
      have hb:=hs.rd ho
      have:w.shape? r=shapeOf (some o):=by simp only [World.shape?,shapeOf,hb];cases o <;> rfl
      simp only [Sem.run,this]
      exact ih _ _ h
    · exact h.elim
  | frozen a k ih=>
    intro K h
    simp only [semq] at h
    split at h
    · rename_i o ho
      simp only [Sem.run,hs.frozen ho a rfl]
      exact ih _ _ h
    · exact h.elim
  | getObj r k ih=>
    intro K h
    simp only [semq] at h
    split at h
    · exact h.elim
    · rename_i o hno ho
      have hb:=hs.rd ho
      have hrun:(Sem.getObj r k).run P w=(k o).run P w:=by
        simp only [Sem.run,hb]
      rw [hrun]
      exact ih _ _ h
    · exact h.elim
  | choose q k ih=>
    intro K h
    simp only [semq] at h
    split at h
    · rename_i hq;simp only [Sem.run,hq,if_true];exact ih _ _ h
    · exact h.elim
  | program k ih=>intro K h;simp only [semq] at h;exact ih _ _ h
  | mark m k ih=>intro K h;simp only [semq] at h;exact ih _ h
  | _=>exact fun K h=>h.elim
theorem resL_ok {H:Hp} {U:Fr} {a:Act} (hf:FOk D N U [] a):∀ {rs:List ResultVar} {rv:List RV} {l:List Value} {K:List Value→Prop},lowR P rs=some rv→resL F H U rv=some l→K l →
    semq P F H (rs.mapM fun
      | .tmp t=>pure (a.tmps.getD t undef)
      | .cell x t=>do loadVar t (← asAddr (a.tmps.getD x undef))) K
  | [],rv,l,K,hl,hr,hK=>by
    simp only [lowR,Option.some.injEq] at hl
    subst hl
    simp only [resL,Option.some.injEq] at hr
    subst hr
    exact hK
  | .tmp t::rs,rv,l,K,hl,hr,hK=>by
    simp only [lowR,Option.map_eq_some_iff] at hl
    obtain ⟨rv',hl',rfl⟩:=hl
    simp only [resL] at hr
    split at hr
    case h_2=>cases hr
    rename_i v l' hv hr'
    simp only [Option.some.injEq] at hr
    subst hr
    simp only [List.mapM_cons,semq_bind,semq_pure,hf.u _ _ hv]
    exact resL_ok hf hl' hr' hK
  | .cell x t::rs,rv,l,K,hl,hr,hK=>by
    simp only [lowR] at hl
    split at hl
    case h_2=>cases hl
    rename_i n g rv' hn hg hl'
    simp only [Option.some.injEq] at hl
    subst hl
    simp only [resL] at hr
    split at hr
    case h_2=>cases hr
    rename_i b off l' hv hr'
    split at hr
    case h_2=>cases hr
    rename_i cs hcs
    simp only [List.mapM_cons,semq_bind,hf.u _ _ hv]
    unfold asAddr loadVar
    simp only [semq_pure,semq_bind,semq_isAgg hg]
    cases g with
    | true=>
      simp only [if_true,Option.some.injEq] at hr ⊢
      subst hr
      simp only [semq_bind,semq_sizeOf hn]
      refine semq_loadCells hcs ?_
      exact resL_ok hf hl' hr' hK
    | false =>
      simp only [Bool.false_eq_true,if_false] at hr ⊢
      obtain ⟨v,rfl⟩:∃ v,cs=[v]:=by
        match cs,hr with
        | [v],_=>exact ⟨v,rfl⟩
        | [],hr=>cases hr
        | _::_::_,hr=>cases hr
      simp only [Option.some.injEq] at hr
      subst hr
      unfold cellsAt at hcs
      split at hcs
      · rename_i c e f ho
        split at hcs
        · rename_i hle
          simp only [Option.some.injEq] at hcs
          have hn1:n=1:=by
            have:=congrArg List.length hcs
            simp at this
            omega
          subst hn1
          refine semq_load (v:=c[off]) (by rw [cellOf_at ho];simp) ?_
          have:v=c[off]:=by
            rw [List.drop_eq_getElem_cons (by simp;omega)] at hcs
            simpa using hcs.symm
          rw [← this]
          exact resL_ok hf hl' hr' hK
        · cases hcs
      · cases hcs
def numb:Nat→List Value→Fr
  | _,[]=>[]
  | i,v::r=>(i,some v)::numb (i+1) r
theorem lkU_numb:∀ (l:List Value) (i s:Nat) (v:Value),lkU (numb i l) s=some v→i≤s∧l[s - i]?=some v
  | [],i,s,v,h=>by cases h
  | x :: l,i,s,v,h=>by
    simp only [numb,lkU] at h
    split at h
    · rename_i e;subst e;simp only [Option.some.injEq] at h;subst h;simp
    · rename_i e
      obtain ⟨h1,h2⟩:=lkU_numb l (i+1) s v h
      refine ⟨by omega,?_⟩
      rw [show s - i=(s - (i+1))+1 from by omega,List.getElem?_cons_succ]
      exact h2
structure Fun where
  n:Nat
  c:SC
  rv:List RV
def lowF (P:Program) (ov:List Nat) (fn:Func):Option Fun:=match fn.body with
  | some c=>match lowC P fn.ntmps ov c,lowR P fn.results.toList with
    | some sc,some rv=>some ⟨fn.ntmps,sc,rv⟩
    | _,_=>none
  | none=>none
def fin (F:Base) (rv:List RV) (K:Value→Hp→Prop):Ex→Fr→Hp→Prop
  | .x _,_,_=>False
  | _,U,H=>match resL F H U rv with
    | some l=>K (resV l) H
    | none=>False
theorem callG_of_svc {f:Nat} {fn:Func} {fu:Fun} {args:List Value} {H:Hp} {K:Value→Hp→Prop} (hm:P.follows .mixedOrders=true) (hf:P.funcs[f]?=some fn) (hl:lowF P ov fn=some fu) (hn:args.length≤fu.n)
    (h:svc P X₀ F w0 fu.n fu.c (numb 0 args) H (fin F fu.rv K)):CallG P X₀ F w0 f args.toArray H K:=by
  intro w hs
  unfold lowF at hl
  split at hl
  case h_2=>cases hl
  rename_i c hb
  split at hl
  case h_2=>cases hl
  rename_i sc rv hc hrv
  simp only [Option.some.injEq] at hl
  subst hl
  simp only at hn h
  refine calls_of_wp hf hb (svc_sound (D:=[]) hm c sc _ H _ _ _ w hc ?_ ?_ hs h)
  · have key:∀ U H' a' w',FOk [] fn.ntmps U [] a'→Sat X₀ F w0 H' w'→(match resL F H' U rv with
        | some l=>K (resV l) H'
        | none=>False)→a'.defers=[]∧∃ v,(results fn a'.tmps).run P w'=.ok v w'∧(∃ v' H',Ending.returned v=.returned v'∧Sat X₀ F w0 H' w'∧K v' H'):=fun U H' a' w' hf' hs' hq=>by
      split at hq
      case h_2=>exact hq.elim
      rename_i l hres
      refine ⟨hf'.defers,?_⟩
      have hq2:semq P F H' (results fn a'.tmps) (fun v=>v=resV l):=by
        unfold results
        rw [semq_bind,Array.mapM_eq_mapM_toList,map_eq_pure_bind,semq_bind]
        refine resL_ok hf' hrv hres ?_
        simp only [semq_pure]
        match l with
        | []=>rfl
        | [v]=>rfl
        | _::_::_=>simp [resV]
      obtain ⟨v,hv,rfl⟩:=semq_run hs' _ _ hq2
      exact ⟨_,hv,_,H',rfl,hs',hq⟩
    intro e U H' a' w' hf' hs' hq
    cases e with
    | n=>exact key _ _ _ _ hf' hs' hq
    | r=>exact key _ _ _ _ hf' hs' hq
    | x id=>exact hq.elim
  · refine ⟨rfl,by simp;omega,fun s v hl=>?_,fun _ _ _ hl=>by cases hl⟩
    obtain ⟨_,h2⟩:=lkU_numb args 0 s v hl
    rw [Nat.sub_zero] at h2
    have hlt:s < args.length:=by
      rcases Nat.lt_or_ge s args.length with h3 | h3
      · exact h3
      · rw [List.getElem?_eq_none h3] at h2;cases h2
    rw [Array.getD_eq_getD_getElem?,Array.getElem?_append_left (by simpa using hlt)]
    simp [h2]
theorem pureV_of_svc {f:Nat} {fn:Func} {fu:Fun} {args:List Value} {v:Value} (hm:P.follows .mixedOrders=true) (hf:P.funcs[f]?=some fn) (hl:lowF P ov fn=some fu) (hn:args.length≤fu.n)
    (h:∀ w0,svc P [] F w0 fu.n fu.c (numb 0 args) [] (fin F fu.rv fun v' _=>v'=v)):PureV P F f args.toArray v:=by
  intro w hw
  have hs:Sat [] F w [] w:=⟨rfl,rfl,rfl,Nat.le_refl _,hw,by simp,by simp,by simp,fun _ _ _=>rfl⟩
  refine (callG_of_svc hm hf hl hn (h w) w hs).mono ?_
  rintro e w' ⟨v',H',rfl,hs',rfl⟩
  exact ⟨rfl,hs'.os,hs'.tape,hs'.output,hs'.size,fun k hk=>hs'.old k hk (by simp)⟩
theorem PureV.of_same {f:Nat} {args:Array Value} {v:Value} (h:∀ w,Calls P f args w fun e w'=>e=.returned v∧w'=w):PureV P F f args v:=
  fun w _=>(h w).mono fun _ _ ⟨he,hw⟩=>⟨he,hw ▸ RowKit.Below.refl _ _⟩
end
theorem wrap_i64 (x:Int):IntKind.i64.wrap x=(x+9223372036854775808) % 18446744073709551616 - 9223372036854775808:=by
  unfold IntKind.wrap
  have e1:(2:Int) ^ 64=18446744073709551616:=by decide
  have e2:(2:Int) ^ (64 - 1)=9223372036854775808:=by decide
  simp only [IntKind.bits,IntKind.signed,Bool.true_and]
  split <;> rename_i h <;> simp only [ge_iff_le,decide_eq_true_eq,e1,e2] at h ⊢ <;> omega
theorem wrap_u64 (x:Int):IntKind.u64.wrap x=x % 18446744073709551616:=by
  unfold IntKind.wrap
  simp only [IntKind.bits,IntKind.signed,Bool.false_and,Bool.false_eq_true,if_false]
  have e1:(2:Int) ^ 64=18446744073709551616:=by decide
  rw [e1]
theorem wrap_u8 (x:Int):IntKind.u8.wrap x=x % 256:=by
  unfold IntKind.wrap
  simp only [IntKind.bits,IntKind.signed,Bool.false_and,Bool.false_eq_true,if_false]
  have e1:(2:Int) ^ 8=256:=by decide
  rw [e1]
theorem in_i64 (x:Int) (h:-9223372036854775808≤x∧x≤9223372036854775807):IntKind.i64.wrap x=x:=by rw [wrap_i64];omega
theorem in_u64 (x:Int) (h:0≤x∧x≤18446744073709551615):IntKind.u64.wrap x=x:=by rw [wrap_u64];omega
theorem in_u8 (x:Int) (h:0≤x∧x≤255):IntKind.u8.wrap x=x:=by rw [wrap_u8];omega
theorem bs_len (l:List UInt8):(bs l).data.toList.length=l.length:=rfl
theorem bs_list (l:List UInt8):(bs l).data.toList=l:=rfl
theorem bs_of (s:ByteArray):s=bs s.data.toList:=rfl
end Go.Eng
