/- The engine, part 17: functions that defer calls. -/
import Derived.Test.YtoelfmmfjebabaaGreatDoorEng16
import Derived.Defers
namespace Go.Eng
open Go
set_option linter.unusedVariables false
inductive SD where
  | low (c:SC)
  | seq (a b:SD)
  | cond (x:X) (a b:SD)
  | dfr (ops:List SO) (x:X) (args:List X)
def dfrs:Code→Bool
  | .region _ ops _=>ops.toList.any fun o=>match o.op with
    | .defer _=>true
    | _=>false
  | .seq a b=>dfrs a||dfrs b
  | .cond _ a b=>dfrs a||dfrs b
  | _=>false
def low1 (P:Program) (N:Nat) (ov:List Nat) (c:Code):Option SC:=if dfrs c then none else lowC P N ov c
theorem low1_of {P:Program} {N:Nat} {ov:List Nat} {c:Code} {sc:SC} (h:low1 P N ov c=some sc):lowC P N ov c=some sc:=by
  unfold low1 at h
  split at h
  · cases h
  · exact h
def lowDR (P:Program) (N:Nat) (ov:List Nat) (id:Nat) (ops:Array Oper) (draw:Bool):Option SD:=
  match ops.toList.getLast? with
  | some o=>match o.op,o.dst,o.guard with
    | .defer c,none,none=>match c.callee with
      | .value x=>match draw,lowL P N ops false (exOf ov id) 0 ops.toList.dropLast with
        | false,some sl=>some (.dfr sl (X.of x) (c.args.toList.map X.of))
        | _,_=>none
      | _=>none
    | _,_,_=>none
  | none=>none
def lowD (P:Program) (N:Nat) (ov:List Nat):Code→Option SD
  | .region id ops draw=>match low1 P N ov (.region id ops draw) with
    | some sc=>some (.low sc)
    | none=>lowDR P N ov id ops draw
  | .seq a b=>match low1 P N ov (.seq a b) with
    | some sc=>some (.low sc)
    | none=>match lowD P N ov a,lowD P N ov b with
      | some x,some y=>some (.seq x y)
      | _,_=>none
  | .cond c a b=>match low1 P N ov (.cond c a b) with
    | some sc=>some (.low sc)
    | none=>match lowD P N ov a,lowD P N ov b with
      | some x,some y=>some (.cond (X.of c) x y)
      | _,_=>none
  | c=>(lowC P N ov c).map .low
section
variable (P:Program) (X₀:List Nat) (F:Base) (w0:World) (N:Nat)
def svd:SD→List Deferred→Fr→Hp→(List Deferred→Ex→Fr→Hp→Prop)→Prop
  | .low c,D,U,H,Q=>svc P X₀ F w0 N c U H (Q D)
  | .seq a b,D,U,H,Q=>svd a D U H (fun D e U H=>match e with
      | .n=>svd b D U H Q
      | e=>Q D e U H)
  | .cond x a b,D,U,H,Q=>match rd U [] [] x with
    | some (.bool p)=>(p=true→svd a D U H Q)∧(p=false→svd b D U H Q)
    | _=>False
  | .dfr sl x args,D,U,H,Q=>svL P X₀ F w0 N (fun U H=>match rd U [] [] x,rds U [] [] args with
      | some (.func fn fi ca),some vs=>Q ({ target:=.fn fn ca,args:=fi++vs.toArray }::D) .n U H
      | _,_=>False) sl U [] H
end
section
variable {P:Program} {X₀:List Nat} {F:Base} {w0:World} {N:Nat} {ov:List Nat} {ops:Array Oper}
theorem wpList_app {K:Act→Hp→Prop} {Q:Exit→Act→World→Prop} {l2:List Oper} (hQ:∀ a H w,Sat X₀ F w0 H w→K a H→wpList P ops Q l2 a w):∀ (l:List (Oper×Kind)) (a:Act) (H:Hp) (w:World),
    rvc P X₀ F w0 ops K l a H→Sat X₀ F w0 H w→wpList P ops Q (l.map (·.1)++l2) a w
  | [],a,H,w,h,hs=>hQ a H w hs h
  | (o,k)::rest,a,H,w,h,hs=>by
    simp only [rvc] at h
    simp only [List.map_cons,List.cons_append,wpList]
    split
    · rename_i hw
      rw [if_pos hw] at h
      exact .inl (Oper.wp_of_sem (fun a H w hs h=>wpList_app hQ rest a H w h hs) (kop_sem h) hs)
    · rename_i hw
      rw [if_neg hw] at h
      exact wpList_app hQ rest _ H w h hs
theorem svd_sound (hm:P.follows .mixedOrders=true):∀ (c:Code) (sd:SD) (D:List Deferred) (U:Fr) (H:Hp) (Q:List Deferred→Ex→Fr→Hp→Prop) (Q':Exit→Act→World→Prop) (a:Act) (w:World),
    lowD P N ov c=some sd→(∀ D,QOk D X₀ F w0 N (Q D) Q')→FOk D N U [] a→Sat X₀ F w0 H w→svd P X₀ F w0 N sd D U H Q→c.wp P Q' a w:=by
  intro c
  have plain:∀ (c:Code) (sc:SC) D U H (Q:List Deferred→Ex→Fr→Hp→Prop) Q' a w,lowC P N ov c=some sc→(∀ D,QOk D X₀ F w0 N (Q D) Q')→FOk D N U [] a→Sat X₀ F w0 H w→svd P X₀ F w0 N (.low sc) D U H Q→c.wp P Q' a w:=
    fun c sc D U H Q Q' a w hl hQ hf hs h=>svc_sound hm c sc U H (Q D) Q' a w hl (hQ D) hf hs h
  induction c with
  | seq x y ihx ihy=>
    intro sd D U H Q Q' a w hl hQ hf hs h
    simp only [lowD] at hl
    split at hl
    · rename_i sc hsc
      simp only [Option.some.injEq] at hl
      subst hl
      exact plain _ sc D U H Q Q' a w (low1_of hsc) hQ hf hs h
    · split at hl
      · rename_i sx sy hx hy
        simp only [Option.some.injEq] at hl
        subst hl
        refine wp_seq (ihx sx D U H (fun D e U H=>match e with | .n=>svd P X₀ F w0 N sy D U H Q | e=>Q D e U H) _ a w hx (fun D' e U' H' a' w' hf' hs' hq=>?_) hf hs h)
        cases e with
        | n=>exact ihy sy D' U' H' Q Q' a' w' hy hQ hf' hs' hq
        | r=>exact hQ D' .r U' H' a' w' hf' hs' hq
        | x id=>exact then_x (hQ D' (.x id) U' H' a' w' hf' hs' hq)
      · cases hl
  | cond x a b iha ihb=>
    intro sd D U H Q Q' ac w hl hQ hf hs h
    simp only [lowD] at hl
    split at hl
    · rename_i sc hsc
      simp only [Option.some.injEq] at hl
      subst hl
      exact plain _ sc D U H Q Q' ac w (low1_of hsc) hQ hf hs h
    · split at hl
      · rename_i sx sy hx hy
        simp only [Option.some.injEq] at hl
        subst hl
        simp only [svd] at h
        split at h
        case h_2=>exact h.elim
        rename_i p hp
        have hv:=hf.rd (G:=[]) (fun _ hl=>by cases hl) hp
        rw [xv_of] at hv
        refine wp_cond hv ?_
        cases p with
        | true=>exact iha sx D U H Q Q' ac w hx hQ hf hs (h.1 rfl)
        | false=>exact ihb sy D U H Q Q' ac w hy hQ hf hs (h.2 rfl)
      · cases hl
  | region id ops draw=>
    intro sd D U H Q Q' a w hl hQ hf hs h
    simp only [lowD] at hl
    split at hl
    · rename_i sc hsc
      simp only [Option.some.injEq] at hl
      subst hl
      exact plain _ sc D U H Q Q' a w (low1_of hsc) hQ hf hs h
    · unfold lowDR at hl
      split at hl
      case h_2=>cases hl
      rename_i o ho
      split at hl
      case h_2=>cases hl
      rename_i c hop hdst hguard
      split at hl
      case h_2=>cases hl
      rename_i x hc
      split at hl
      case h_2=>cases hl
      rename_i sl hsl _
      simp only [Option.some.injEq] at hl
      subst hl
      simp only [svd] at h
      obtain ⟨init,hinit⟩:∃ init,ops.toList=init++[o]:=⟨ops.toList.dropLast,by
        rw [List.getLast?_eq_some_iff] at ho
        obtain ⟨ys,hys⟩:=ho
        rw [hys];simp⟩
      have hdl:ops.toList.dropLast=init:=by rw [hinit];simp
      rw [hdl] at hsl
      have hops:ops=(init++[o]).toArray:=by rw [← hinit]
      have e1:(init.zip (sl.map (·.k))).map (·.1)=init:=zip_fst _ _ (by simp [lowL_len hsl])
      rw [hops]
      refine wp_region_lit ?_
      have hr:=svL_sound hsl hf h
      have this:=fun hQQ=>wpList_app (P:=P) (ops:=ops) (Q:=Q') (l2:=[o]) (X₀:=X₀) (F:=F) (w0:=w0) hQQ (init.zip (sl.map (·.k))) a H w hr hs
      rw [e1] at this
      rw [← hops]
      refine this fun a' H' w' hs' ⟨U',hf',hq⟩=>?_
      · split at hq
        case h_2=>exact hq.elim
        rename_i fn fi ca vs hx hvs
        have hxv:=hf'.rd (G:=[]) (fun _ hl=>by cases hl) hx
        rw [xv_of] at hxv
        have hargs:=hf'.rds (G:=[]) (fun _ hl=>by cases hl) hvs
        simp only [wpList]
        have hw:Region.wanted o (yielded ops a'.tmps)=true:=by unfold Region.wanted;rw [hguard]
        rw [if_pos hw]
        refine .inl ?_
        unfold Oper.wp
        have hex:(execOp a'.eval o).run P w'=.ok (.defer { target:=.fn fn ca,args:=fi++vs.toArray }) w':=by
          have ha:c.args.map a'.eval=vs.toArray:=by
            rw [← hargs,List.map_map,← List.map_toArray,Array.toArray_toList]
            apply Array.map_congr_left
            intro z _
            exact (xv_of a' z).symm
          unfold execOp
          rw [hop]
          simp only [resolve,hc,hxv,Deferred.ofValue,ha]
          rfl
        rw [hex,Oper.upon_defer,hdst]
        exact hQ _ .n U' H' _ w' ⟨by show _::a'.defers=_;rw [hf'.defers],hf'.size,hf'.u,fun _ _ _ hl=>by cases hl⟩ hs' hq
  | _=>
    intro sd D U H Q Q' a w hl hQ hf hs h
    simp only [lowD,Option.map_eq_some_iff] at hl
    obtain ⟨sc,hsc,rfl⟩:=hl
    exact plain _ sc D U H Q Q' a w (low1_of hsc) hQ hf hs h
def CallDG (P:Program) (X:List Nat) (F:Base) (w0:World) (f:FuncId) (args:Array Value) (H:Hp) (K:Hp→Prop):Prop:=
  ∀ w,Sat X F w0 H w→CallsD P f args .returning w (fun e u' w'=>u'=.returning∧∃ v H',e=.returned v∧Sat X F w0 H' w'∧K H')
def finD (P:Program) (X:List Nat) (F:Base) (w0:World) (rv:List RV) (K:Value→Hp→Prop):List Deferred→Fr→Hp→Prop
  | [],U,H=>match resL F H U rv with
    | some l=>K (resV l) H
    | none=>False
  | d::ds,U,H=>∃ f ca,d.target=.fn (.func f) ca∧callable P f=true∧CallDG P X F w0 f (d.args++ca) H (fun H'=>finD P X F w0 rv K ds U H')
theorem leaves_of {fn:Func} {rv:List RV} {K:Value→Hp→Prop} (hrv:lowR P fn.results.toList=some rv):∀ (D:List Deferred) (D':List Deferred) (U:Fr) (H:Hp) (a:Act) (w:World),FOk D' N U [] a→Sat X₀ F w0 H w→finD P X₀ F w0 rv K D U H →
    Leaves P fn a.tmps (fun e w'=>∃ v H',e=.returned v∧Sat X₀ F w0 H' w'∧K v H') D .returning w
  | [],D',U,H,a,w,hf,hs,h=>by
    simp only [finD] at h
    split at h
    case h_2=>exact h.elim
    rename_i l hres
    have hq2:semq P F H (results fn a.tmps) (fun v=>v=resV l):=by
      unfold results
      rw [semq_bind,Array.mapM_eq_mapM_toList,map_eq_pure_bind,semq_bind]
      refine resL_ok hf hrv hres ?_
      simp only [semq_pure]
      match l with
      | []=>rfl
      | [v]=>rfl
      | _::_::_=>simp [resV]
    obtain ⟨v,hv,rfl⟩:=semq_run hs _ _ hq2
    exact ⟨_,hv,_,H,rfl,hs,h⟩
  | d :: ds,D',U,H,a,w,hf,hs,h=>by
    simp only [finD] at h
    obtain ⟨f,ca,ht,hc,hcall⟩:=h
    obtain ⟨t,ar⟩:=d
    simp only at ht hcall
    subst ht
    have hi:(invoke (.fn (.func f) ca) ar).run P w=.ok (.enter f (ar++ca)) w:=by
      have h1:semq P F H (callFunc f (ar++ca)) (fun n=>n=.enter f (ar++ca)):=(semq_callFunc hc _).2 rfl
      obtain ⟨n,hn,rfl⟩:=semq_run hs _ _ h1
      exact hn
    refine leaves_cons (by simp) hi ((hcall w hs).mono fun e u' w' ⟨hu,v,H',he,hs',hk⟩=>?_)
    subst he hu
    exact leaves_of hrv ds D' U H' a w' hf hs' hk
theorem callG_of_svd {f:Nat} {fn:Func} {c:Code} {sd:SD} {rv:List RV} {args:List Value} {H:Hp} {K:Value→Hp→Prop} (hm:P.follows .mixedOrders=true) (hf:P.funcs[f]?=some fn) (hb:fn.body=some c) (hl:lowD P fn.ntmps ov c=some sd) (hrv:lowR P fn.results.toList=some rv) (hn:args.length≤fn.ntmps)
    (h:svd P X₀ F w0 fn.ntmps sd [] (numb 0 args) H (fun D e U H=>match e with | .x _=>False | _=>finD P X₀ F w0 rv K D U H)):CallG P X₀ F w0 f args.toArray H K:=by
  intro w hs
  refine calls_of_wp_defers hf hb (svd_sound hm c sd [] _ H _ _ _ w hl (fun D e U H' a' w' hf' hs' hq=>?_) ?_ hs h)
  · cases e with
    | x id=>exact hq.elim
    | n=>show Leaves P fn a'.tmps _ a'.defers .returning w';rw [hf'.defers];exact leaves_of hrv D D U H' a' w' hf' hs' hq
    | r=>show Leaves P fn a'.tmps _ a'.defers .returning w';rw [hf'.defers];exact leaves_of hrv D D U H' a' w' hf' hs' hq
  · refine ⟨rfl,by simp;omega,fun s v hl=>?_,fun _ _ _ hl=>by cases hl⟩
    obtain ⟨_,h2⟩:=lkU_numb args 0 s v hl
    rw [Nat.sub_zero] at h2
    have hlt:s < args.length:=by
      rcases Nat.lt_or_ge s args.length with h3 | h3
      · exact h3
      · rw [List.getElem?_eq_none h3] at h2;cases h2
    rw [Array.getD_eq_getD_getElem?,Array.getElem?_append_left (by simpa using hlt)]
    simp [h2]
end
def DoesD (P:Program) (F:Base) (f:FuncId) (args:Array Value) (H0:Hp) (K:Hp→Prop):Prop:=∀ w1,(∀ b o,F b=some o→w1.heap[b]?=some o)→CallDG P (H0.map (·.1)) F w1 f args H0 K
theorem doesD_of_svc {P:Program} {ov:List Nat} {F:Base} {f:Nat} {fn:Func} {fu:Fun} {args:List Value} {H0:Hp} {K:Hp→Prop} (hm:P.follows .mixedOrders=true) (hf:P.funcs[f]?=some fn) (hl:lowF P ov fn=some fu) (hn:args.length≤fu.n)
    (h:∀ w0,(∀ b o,F b=some o→w0.heap[b]?=some o)→svc P (H0.map (·.1)) F w0 fu.n fu.c (numb 0 args) H0 (fin F fu.rv fun _ H=>K H)):DoesD P F f args.toArray H0 K:=by
  intro w1 hw1 w hs
  have h:=h w1 hw1
  unfold lowF at hl
  split at hl
  case h_2=>cases hl
  rename_i c hb
  split at hl
  case h_2=>cases hl
  rename_i sc rv hc hrv
  simp only [Option.some.injEq] at hl
  subst hl
  simp only at hn h
  refine (callsD_of_wp (R:=fun e w'=>∃ v H',e=.returned v∧Sat (H0.map (·.1)) F w1 H' w'∧K H') hf hb (svc_sound (D:=[]) hm c sc _ H0 _ _ _ w hc ?_ ?_ hs h)).mono fun e u' w' hh=>hh
  · have key:∀ U H' a' w',FOk [] fn.ntmps U [] a'→Sat (H0.map (·.1)) F w1 H' w'→(match resL F H' U rv with
        | some l=>K H'
        | none=>False)→a'.defers=[]∧∃ v,(results fn a'.tmps).run P w'=.ok v w'∧(∃ v' H',Ending.returned v=.returned v'∧Sat (H0.map (·.1)) F w1 H' w'∧K H'):=fun U H' a' w' hf' hs' hq=>by
      split at hq
      case h_2=>exact hq.elim
      rename_i l hres
      refine ⟨hf'.defers,?_⟩
      have hq2:semq P F H' (results fn a'.tmps) (fun v=>v=resV l):=by
        unfold results
        rw [semq_bind,Array.mapM_eq_mapM_toList,map_eq_pure_bind,semq_bind]
        refine resL_ok hf' hrv hres ?_
        simp only [semq_pure]
        match l with
        | []=>rfl
        | [v]=>rfl
        | _::_::_=>simp [resV]
      obtain ⟨v,hv,rfl⟩:=semq_run hs' _ _ hq2
      exact ⟨_,hv,_,H',rfl,hs',hq⟩
    intro e U H' a' w' hf' hs' hq
    cases e with
    | n=>exact key _ _ _ _ hf' hs' hq
    | r=>exact key _ _ _ _ hf' hs' hq
    | x id=>exact hq.elim
  · refine ⟨rfl,by simp;omega,fun s v hl=>?_,fun _ _ _ hl=>by cases hl⟩
    obtain ⟨_,h2⟩:=lkU_numb args 0 s v hl
    rw [Nat.sub_zero] at h2
    have hlt:s < args.length:=by
      rcases Nat.lt_or_ge s args.length with h3 | h3
      · exact h3
      · rw [List.getElem?_eq_none h3] at h2;cases h2
    rw [Array.getD_eq_getD_getElem?,Array.getElem?_append_left (by simpa using hlt)]
    simp [h2]
theorem CallDG.frame {P:Program} {X:List Nat} {F F1:Base} {w0:World} {f:FuncId} {args:Array Value} {H H0 Hr:Hp} {K0 K:Hp→Prop} (h:DoesD P F1 f args H0 K0)
    (hF:∀ b o,F1 b=some o→rdObj F Hr b=some o) (h0:∀ e∈H0,e∈H) (hr:∀ e∈Hr,e∈H) (hd:∀ e'∈Hr,∀ e∈H0,e.1≠e'.1)
    (hk:∀ H',K0 H'→(∀ e∈H',F e.1=none)→(∀ e'∈Hr,∀ e∈H',e.1≠e'.1)→(∀ b o,rdObj F1 H' b=some o→rdObj F (Hr++H') b=some o)→K (Hr++H')) :
    CallDG P X F w0 f args H K:=by
  intro w hs
  have hs1:Sat (H0.map (·.1)) (rdObj F Hr) w H0 w:=by
    refine ⟨rfl,rfl,rfl,Nat.le_refl _,fun b o hb=>?_,fun e he=>hs.own e (h0 e he),fun e he=>?_,fun e he=>.inl (List.mem_map_of_mem he),fun _ _ _=>rfl⟩
    · unfold rdObj at hb
      cases hb':F b with
      | some o'=>rw [hb'] at hb;simp only [Option.some.injEq] at hb;subst hb;exact hs.base b _ hb'
      | none=>rw [hb'] at hb;exact hs.own _ (hr _ (lk_mem hb))
    · unfold rdObj;rw [hs.apart e (h0 e he)]
      exact lk_none fun e' he'=>(hd e' he' e he).symm
  have hs2:Sat (H0.map (·.1)) F1 w H0 w:=by
    refine ⟨rfl,rfl,rfl,Nat.le_refl _,fun b o hb=>hs1.base b o (hF b o hb),hs1.own,fun e he=>?_,hs1.fresh,fun _ _ _=>rfl⟩
    cases hb:F1 e.1 with
    | none=>rfl
    | some o=>have:=hF _ _ hb;rw [hs1.apart e he] at this;cases this
  refine (h w hs2.base w hs2).mono ?_
  rintro e u' w' ⟨hu,v,H',he,hs',hK⟩
  refine ⟨hu,?_⟩
  have hap:∀ e∈H',rdObj F Hr e.1=none:=fun e he=>by
    rcases hs'.fresh e he with h1 | h1
    · obtain ⟨e0,h2,h3⟩:=List.mem_map.1 h1
      rw [← h3];exact hs1.apart e0 h2
    · cases hb:rdObj F Hr e.1 with
      | none=>rfl
      | some o=>
        have:=hs1.base _ _ hb
        rw [Array.getElem?_eq_none h1] at this;cases this
  have h1:∀ e∈H',F e.1=none:=fun e he=>(rd_none (hap e he)).1
  have h2:∀ e'∈Hr,∀ e∈H',e.1≠e'.1:=fun e' he' e he=>(lk_not (rd_none (hap e he)).2 e' he').symm
  have hold:∀ b o,rdObj F Hr b=some o→w'.heap[b]?=some o:=fun b o hb=>by
    have hb':=hs1.base b o hb
    have hlt:b < w.heap.size:=by
      rcases Nat.lt_or_ge b w.heap.size with h | h
      · exact h
      · rw [Array.getElem?_eq_none h] at hb';cases hb'
    rw [hs'.old b hlt (fun hm=>by
      obtain ⟨e0,h2,h3⟩:=List.mem_map.1 hm
      have:=hs1.apart e0 h2
      rw [h3,hb] at this;cases this)]
    exact hb'
  have hown:∀ e∈Hr,w'.heap[e.1]?=some e.2:=fun e he=>by
    have:=hs.apart e (hr e he)
    cases hl:lk Hr e.1 with
    | none=>exact absurd rfl (lk_not hl e he)
    | some o=>
      have hb:rdObj F Hr e.1=some o:=by unfold rdObj;rw [this];exact hl
      have e1:=hold _ _ hb
      have e2:=hs.own _ (hr _ (lk_mem hl))
      have e3:=hs.own _ (hr e he)
      rw [e1,← e3,← e2]
  refine ⟨v,Hr++H',he,⟨hs'.os.trans hs.os,hs'.tape.trans hs.tape,hs'.output.trans hs.output,Nat.le_trans hs.size hs'.size,fun b o hb=>hold b o (by unfold rdObj;rw [hb]),fun e he=>?_,fun e he=>?_,fun e he=>?_,fun k hk hX=>?_⟩,hk H' hK h1 h2 fun b o hb=>?_⟩
  · rcases List.mem_append.1 he with he | he
    · exact hown e he
    · exact hs'.own e he
  · rcases List.mem_append.1 he with he | he
    · exact hs.apart e (hr e he)
    · exact h1 e he
  · rcases List.mem_append.1 he with he | he
    · exact hs.fresh e (hr e he)
    · rcases hs'.fresh e he with h | h
      · obtain ⟨e0,h2,h3⟩:=List.mem_map.1 h
        rw [← h3];exact hs.fresh e0 (h0 e0 h2)
      · exact .inr (Nat.le_trans hs.size h)
  · rw [hs'.old k (Nat.lt_of_lt_of_le hk hs.size) (fun hm=>by
      obtain ⟨e0,h2,h3⟩:=List.mem_map.1 hm
      rcases hs.fresh e0 (h0 e0 h2) with h | h
      · exact hX (h3 ▸ h)
      · exact absurd h (by rw [h3];omega))]
    exact hs.old k hk hX
  · unfold rdObj at hb
    cases hF1:F1 b with
    | some o'=>
      rw [hF1] at hb
      simp only [Option.some.injEq] at hb
      subst hb
      have:=hF _ _ hF1
      unfold rdObj at this ⊢
      cases hFb:F b with
      | some o2=>rw [hFb] at this;exact this
      | none=>rw [hFb] at this;simp only at this ⊢;rw [lk_append,this]
    | none=>
      rw [hF1] at hb
      have hm:=lk_mem hb
      unfold rdObj
      rw [h1 _ hm]
      simp only
      rw [lk_append,lk_none fun e' he'=>(h2 e' he' _ hm).symm]
      exact hb
end Go.Eng
