import Derived.Test.YtoelfmmfjebabaaGreatDoorEng12
import Derived.ChangeArms
namespace Go.Eng
open Go
theorem bs_app (a b:List UInt8):bs a++bs b=bs (a++b):=by
  have:(bs a++bs b).data.toList=a++b:=by simp [bs]
  rw [bs_of (bs a++bs b),this]
theorem bs_size (l:List UInt8):(bs l).size=l.length:=rfl
theorem tdiv_nn {a b:Int} (h:0≤a):a.tdiv b=a / b:=Int.tdiv_eq_ediv_of_nonneg h
theorem tmod_nn {a b:Int} (h:0≤a):a.tmod b=a % b:=Int.tmod_eq_emod_of_nonneg h
theorem byteCells_len (l:List UInt8):(byteCells l).length=l.length:=by simp [byteCells]
theorem byteCells_app (l m:List UInt8):byteCells (l++m)=byteCells l++byteCells m:=by simp [byteCells]
theorem byteCells_drop (l:List UInt8) (n:Nat):(byteCells l).drop n=byteCells (l.drop n):=by simp [byteCells,List.map_drop]
theorem byteCells_take (l:List UInt8) (n:Nat):(byteCells l).take n=byteCells (l.take n):=by simp [byteCells,List.map_take]
theorem u8s_byteCells:∀ l:List UInt8,u8s (byteCells l)=some l
  | []=>rfl
  | c::l=>by
    have:=u8s_byteCells l
    unfold byteCells at this ⊢
    simp only [List.map_cons,u8s,this,Option.map_some]
    congr 2
    simp
theorem bstrC_some (l:List Value):bstrC (some l)=(u8s l).map fun u=>(True,.string (bs u)):=rfl
theorem u8s_nil:u8s []=some []:=rfl
theorem u8s_i (n:Int) (r:List Value):u8s (.int .u8 n::r)=(u8s r).map (UInt8.ofNat n.toNat::·):=rfl
theorem ofNat_toNat (c:UInt8):UInt8.ofNat (Int.toNat (c.toNat:Int))=c:=by simp
theorem ofNat_toNat' (c:UInt8):UInt8.ofNat c.toNat=c:=by simp
theorem wrap_u64_id {a:Int} (h:0≤a) (h2:a < 18446744073709551616):IntKind.u64.wrap a=a:=by rw [wrap_u64];omega
theorem ld_bytes (l:List UInt8) (t:List Value) (i:Nat) (h:i < l.length):((byteCells l++t).drop i).take 1=[.int .u8 (l.getD i 0).toNat]:=by
  rw [List.drop_append_of_le_length (by rw [byteCells_len];omega),byteCells_drop,List.drop_eq_getElem_cons h,List.getD_eq_getElem?_getD,List.getElem?_eq_getElem h]
  rfl
theorem mapMO_cons {α β:Type} {f:α→Option β} {a:α} {l:List α}:(a::l).mapM f=(do let b ← f a;let bs ← l.mapM f;pure (b::bs)):=List.mapM_cons
theorem mapMO_nil {α β:Type} {f:α→Option β}:([]:List α).mapM f=pure []:=List.mapM_nil
end Go.Eng
/- The engine, part 14: memory that was there: opening data; purity under more memory. -/
namespace Go.Eng
open Go
theorem PureF.mono {P:Program} {F F':Base} {fv:Value} {args:List Value} {v:Value} (h:PureF P F fv args v) (hF:∀ b o,F b=some o→F' b=some o):PureF P F' fv args v:=by
  obtain ⟨f,fi,ca,h1,h2,h3⟩:=h
  exact ⟨f,fi,ca,h1,h2,h3.mono hF⟩
theorem PureF.up {P:Program} {F:Base} {fv:Value} {args:List Value} {v:Value} {H:Hp} (h:PureF P F fv args v):PureF P (rdObj F H) fv args v:=
  h.mono fun _ _ hb=>by simp [rdObj,hb]
theorem le_up {F:Base} {H:Hp} (b:Nat) (o:Obj) (h:F b=some o):rdObj F H b=some o:=by simp [rdObj,h]
def Cl (F:Base) (a:Option Addr) (n i:Nat) (cs:List Value):Prop:=
  ∃ b off c T fz,a=some ⟨b,off,none⟩∧F b=some (.cells c T fz)∧off+i * n+n≤c.size∧(c.toList.drop (off+i * n)).take n=cs
theorem Cl.mono {F F':Base} {a:Option Addr} {n i:Nat} {cs:List Value} (h:Cl F a n i cs) (hF:∀ b o,F b=some o→F' b=some o):Cl F' a n i cs:=by
  obtain ⟨b,off,c,T,fz,h1,h2,h3,h4⟩:=h
  exact ⟨b,off,c,T,fz,h1,hF _ _ h2,h3,h4⟩
theorem Cl.rd {F:Base} {a:Option Addr} {n i:Nat} {cs:List Value} (h:Cl F a n i cs):∃ b off,a=some ⟨b,off,none⟩∧∀ H,cellsAt F H b (off+i * n) n=some cs:=by
  obtain ⟨b,off,c,T,fz,h1,h2,h3,h4⟩:=h
  refine ⟨b,off,h1,fun H=>?_⟩
  rw [cellsAt_O,rdObj_base h2]
  unfold cellsO
  simp only [h3,if_true,h4]
theorem Cl.len {F:Base} {a:Option Addr} {n i:Nat} {cs:List Value} (h:Cl F a n i cs):cs.length=n:=by
  obtain ⟨b,off,c,T,fz,h1,h2,h3,h4⟩:=h
  rw [← h4];simp;omega
theorem Cl.ld1 {F:Base} {a:Option Addr} {i:Nat} {v:Value} (h:Cl F a 1 i [v]):∃ b off,a=some ⟨b,off,none⟩∧∀ H,ldV F H 1 false (.pointer (some ⟨b,off+i * 1,none⟩))=some (True,v):=by
  obtain ⟨b,off,h1,h2⟩:=h.rd
  refine ⟨b,off,h1,fun H=>?_⟩
  rw [ldV_of,h2,ldC_one];rfl
theorem Cl.ldn {F:Base} {a:Option Addr} {n i:Nat} {cs:List Value} (h:Cl F a n i cs):∃ b off,a=some ⟨b,off,none⟩∧∀ H,ldV F H n true (.pointer (some ⟨b,off+i * n,none⟩))=some (True,.agg cs.toArray):=by
  obtain ⟨b,off,h1,h2⟩:=h.rd
  refine ⟨b,off,h1,fun H=>?_⟩
  rw [ldV_of,h2,ldC_agg]
theorem Cl.all {F:Base} {a:Option Addr} {n i:Nat} {cs:List Value} (h:Cl F a n i cs):∃ b off,a=some ⟨b,off,none⟩ ∧
    (∀ (o m:Nat),o+m≤n→∀ H,ldV F H m true (.pointer (some ⟨b,off+i * n+o,none⟩))=some (True,.agg ((cs.drop o).take m).toArray)) ∧
    (∀ (o:Nat),o+1≤n→∀ H,ldV F H 1 false (.pointer (some ⟨b,off+i * n+o,none⟩))=some (True,cs.getD o undef)):=by
  have hlen:=h.len
  obtain ⟨b,off,c,T,fz,h1,h2,h3,h4⟩:=h
  have hc:∀ (o m:Nat),o+m≤n→∀ H,cellsAt F H b (off+i * n+o) m=some ((cs.drop o).take m):=fun o m hom H=>by
    rw [cellsAt_O,rdObj_base h2]
    unfold cellsO
    have:off+i * n+o+m≤c.size:=by omega
    simp only [this,if_true]
    rw [← h4,List.drop_take,List.take_take,List.drop_drop,show min m (n - o)=m by omega]
  refine ⟨b,off,h1,fun o m hom H=>?_,fun o ho H=>?_⟩
  · rw [ldV_of,hc o m hom H,ldC_agg]
  · rw [ldV_of,hc o 1 ho H,ldC_one]
    have:o < cs.length:=by omega
    rw [List.drop_eq_getElem_cons this]
    simp [this]
section
variable {H:Type} {enc:TypeId×Value→H} {P:Program} {w:World} {spare:Nat→Bool} {held:Bool}
end
end Go.Eng
namespace Go.Eng
open Go
def Does (P:Program) (F:Base) (f:FuncId) (args:Array Value) (H0:Hp) (K:Value→Hp→Prop):Prop:=∀ w1,(∀ b o,F b=some o→w1.heap[b]?=some o)→CallG P (H0.map (·.1)) F w1 f args H0 K
theorem lk_append {A B:Hp} {b:Nat}:lk (A++B) b=match lk A b with | some o=>some o | none=>lk B b:=by
  induction A with
  | nil=>rfl
  | cons e r ih=>
    obtain ⟨b',o'⟩:=e
    simp only [List.cons_append,lk]
    split
    · rfl
    · exact ih
theorem lk_none {H:Hp} {b:Nat} (h:∀ e∈H,e.1≠b):lk H b=none:=by
  cases hl:lk H b with
  | none=>rfl
  | some o=>exact absurd rfl (h _ (lk_mem hl))
theorem lk_not {H:Hp} {b:Nat} (h:lk H b=none):∀ e∈H,e.1≠b:=by
  induction H with
  | nil=>intro e he;cases he
  | cons x r ih=>
    obtain ⟨b',o'⟩:=x
    simp only [lk] at h
    split at h
    · cases h
    · rename_i hne
      intro e he
      rcases List.mem_cons.1 he with he | he
      · subst he;exact hne
      · exact ih h e he
theorem rd_none {F:Base} {H:Hp} {b:Nat} (h:rdObj F H b=none):F b=none∧lk H b=none:=by
  unfold rdObj at h
  cases hF:F b with
  | none=>rw [hF] at h;exact ⟨rfl,h⟩
  | some o=>rw [hF] at h;cases h
theorem CallG.frame {P:Program} {X:List Nat} {F F1:Base} {w0:World} {f:FuncId} {args:Array Value} {H H0 Hr:Hp} {K0 K:Value→Hp→Prop} (h:Does P F1 f args H0 K0)
    (hF:∀ b o,F1 b=some o→rdObj F Hr b=some o) (h0:∀ e∈H0,e∈H) (hr:∀ e∈Hr,e∈H) (hd:∀ e'∈Hr,∀ e∈H0,e.1≠e'.1)
    (hk:∀ v H',K0 v H'→(∀ e∈H',F e.1=none)→(∀ e'∈Hr,∀ e∈H',e.1≠e'.1)→(∀ b o,rdObj F1 H' b=some o→rdObj F (Hr++H') b=some o)→K v (Hr++H')) :
    CallG P X F w0 f args H K:=by
  intro w hs
  have hs1:Sat (H0.map (·.1)) (rdObj F Hr) w H0 w:=by
    refine ⟨rfl,rfl,rfl,Nat.le_refl _,fun b o hb=>?_,fun e he=>hs.own e (h0 e he),fun e he=>?_,fun e he=>.inl (List.mem_map_of_mem he),fun _ _ _=>rfl⟩
    · unfold rdObj at hb
      cases hb':F b with
      | some o'=>rw [hb'] at hb;simp only [Option.some.injEq] at hb;subst hb;exact hs.base b _ hb'
      | none=>rw [hb'] at hb;exact hs.own _ (hr _ (lk_mem hb))
    · unfold rdObj;rw [hs.apart e (h0 e he)]
      exact lk_none fun e' he'=>(hd e' he' e he).symm
  have hs2:Sat (H0.map (·.1)) F1 w H0 w:=by
    refine ⟨rfl,rfl,rfl,Nat.le_refl _,fun b o hb=>hs1.base b o (hF b o hb),hs1.own,fun e he=>?_,hs1.fresh,fun _ _ _=>rfl⟩
    cases hb:F1 e.1 with
    | none=>rfl
    | some o=>have:=hF _ _ hb;rw [hs1.apart e he] at this;cases this
  refine (h w hs2.base w hs2).mono ?_
  rintro e w' ⟨v,H',he,hs',hK⟩
  have hap:∀ e∈H',rdObj F Hr e.1=none:=fun e he=>by
    rcases hs'.fresh e he with h1 | h1
    · obtain ⟨e0,h2,h3⟩:=List.mem_map.1 h1
      rw [← h3];exact hs1.apart e0 h2
    · cases hb:rdObj F Hr e.1 with
      | none=>rfl
      | some o=>
        have:=hs1.base _ _ hb
        rw [Array.getElem?_eq_none h1] at this;cases this
  have h1:∀ e∈H',F e.1=none:=fun e he=>(rd_none (hap e he)).1
  have h2:∀ e'∈Hr,∀ e∈H',e.1≠e'.1:=fun e' he' e he=>(lk_not (rd_none (hap e he)).2 e' he').symm
  have hold:∀ b o,rdObj F Hr b=some o→w'.heap[b]?=some o:=fun b o hb=>by
    have hb':=hs1.base b o hb
    have hlt:b < w.heap.size:=by
      rcases Nat.lt_or_ge b w.heap.size with h | h
      · exact h
      · rw [Array.getElem?_eq_none h] at hb';cases hb'
    rw [hs'.old b hlt (fun hm=>by
      obtain ⟨e0,h2,h3⟩:=List.mem_map.1 hm
      have:=hs1.apart e0 h2
      rw [h3,hb] at this;cases this)]
    exact hb'
  have hown:∀ e∈Hr,w'.heap[e.1]?=some e.2:=fun e he=>by
    have:=hs.apart e (hr e he)
    cases hl:lk Hr e.1 with
    | none=>exact absurd rfl (lk_not hl e he)
    | some o=>
      have hb:rdObj F Hr e.1=some o:=by unfold rdObj;rw [this];exact hl
      have e1:=hold _ _ hb
      have e2:=hs.own _ (hr _ (lk_mem hl))
      have e3:=hs.own _ (hr e he)
      rw [e1,← e3,← e2]
  refine ⟨v,Hr++H',he,⟨hs'.os.trans hs.os,hs'.tape.trans hs.tape,hs'.output.trans hs.output,Nat.le_trans hs.size hs'.size,fun b o hb=>hold b o (by unfold rdObj;rw [hb]),fun e he=>?_,fun e he=>?_,fun e he=>?_,fun k hk hX=>?_⟩,hk v H' hK h1 h2 fun b o hb=>?_⟩
  · rcases List.mem_append.1 he with he | he
    · exact hown e he
    · exact hs'.own e he
  · rcases List.mem_append.1 he with he | he
    · exact hs.apart e (hr e he)
    · exact h1 e he
  · rcases List.mem_append.1 he with he | he
    · exact hs.fresh e (hr e he)
    · rcases hs'.fresh e he with h | h
      · obtain ⟨e0,h2,h3⟩:=List.mem_map.1 h
        rw [← h3];exact hs.fresh e0 (h0 e0 h2)
      · exact .inr (Nat.le_trans hs.size h)
  · rw [hs'.old k (Nat.lt_of_lt_of_le hk hs.size) (fun hm=>by
      obtain ⟨e0,h2,h3⟩:=List.mem_map.1 hm
      rcases hs.fresh e0 (h0 e0 h2) with h | h
      · exact hX (h3 ▸ h)
      · exact absurd h (by rw [h3];omega))]
    exact hs.old k hk hX
  · unfold rdObj at hb
    cases hF1:F1 b with
    | some o'=>
      rw [hF1] at hb
      simp only [Option.some.injEq] at hb
      subst hb
      have:=hF _ _ hF1
      unfold rdObj at this ⊢
      cases hFb:F b with
      | some o2=>rw [hFb] at this;exact this
      | none=>rw [hFb] at this;simp only at this ⊢;rw [lk_append,this]
    | none=>
      rw [hF1] at hb
      have hm:=lk_mem hb
      unfold rdObj
      rw [h1 _ hm]
      simp only
      rw [lk_append,lk_none fun e' he'=>(h2 e' he' _ hm).symm]
      exact hb
theorem CallE.does {P:Program} {X:List Nat} {F F1:Base} {w0:World} {f:FuncId} {args:Array Value} {H:Hp} {K0 K:Value→Hp→Prop} (H0 Hr:Hp) (h:Does P F1 f args H0 K0)
    (hF:∀ b o,F1 b=some o→rdObj F Hr b=some o) (h0:∀ e∈H0,e∈H) (hr:∀ e∈Hr,e∈H) (hd:∀ e'∈Hr,∀ e∈H0,e.1≠e'.1)
    (hk:∀ v H',K0 v H'→(∀ e∈H',F e.1=none)→(∀ e'∈Hr,∀ e∈H',e.1≠e'.1)→(∀ b o,rdObj F1 H' b=some o→rdObj F (Hr++H') b=some o)→K v (Hr++H')) :
    @CallE P X F w0 f args H ⟨K⟩:=CallG.frame h hF h0 hr hd hk
theorem CallEF.does {P:Program} {X:List Nat} {F F1:Base} {w0:World} {f:FuncId} {fi ca:Array Value} {args:List Value} {H:Hp} {K0 K:Value→Hp→Prop} (H0 Hr:Hp) (hc:callable P f=true) (h:Does P F1 f (fi++args.toArray++ca) H0 K0)
    (hF:∀ b o,F1 b=some o→rdObj F Hr b=some o) (h0:∀ e∈H0,e∈H) (hr:∀ e∈Hr,e∈H) (hd:∀ e'∈Hr,∀ e∈H0,e.1≠e'.1)
    (hk:∀ v H',K0 v H'→(∀ e∈H',F e.1=none)→(∀ e'∈Hr,∀ e∈H',e.1≠e'.1)→(∀ b o,rdObj F1 H' b=some o→rdObj F (Hr++H') b=some o)→K v (Hr++H')) :
    @CallEF P X F w0 (.func (.func f) fi ca) args H ⟨K⟩:=⟨f,fi,ca,rfl,hc,CallG.frame h hF h0 hr hd hk⟩
theorem CallE.news {P:Program} {X:List Nat} {F:Base} {w0:World} {f:FuncId} {args:Array Value} {H:Hp} {K0 K:Value→Hp→Prop} (h:Does P (rdObj F H) f args [] K0)
    (hk:∀ v H',K0 v H'→(∀ e∈H',F e.1=none)→(∀ e'∈H,∀ e∈H',e.1≠e'.1)→(∀ b o,rdObj (rdObj F H) H' b=some o→rdObj F (H++H') b=some o)→K v (H++H')) :
    @CallE P X F w0 f args H ⟨K⟩:=CallG.frame h (fun _ _ h=>h) (fun e he=>by cases he) (fun e he=>he) (fun e' _ e he=>by cases he) hk
theorem hext_app {F:Base} {H H':Hp}:Hext F H (H++H'):=by
  intro b o h
  unfold rdObj at *
  cases hF:F b with
  | some o'=>rw [hF] at h;exact h
  | none=>
    rw [hF] at h
    simp only at h ⊢
    rw [lk_append,h]
theorem CallN.news {P:Program} {X:List Nat} {F:Base} {w0:World} {f:FuncId} {args:Array Value} {H:Hp} {K0 K:Value→Hp→Prop} (h:Does P (rdObj F H) f args [] K0)
    (hk:∀ v H',K0 v H'→(∀ e∈H',F e.1=none)→(∀ e'∈H,∀ e∈H',e.1≠e'.1)→(∀ b o,rdObj (rdObj F H) H' b=some o→rdObj F (H++H') b=some o)→K v (H++H')) :
    @CallN P X F w0 f args H ⟨K⟩:=CallG.frame h (fun _ _ h=>h) (fun e he=>by cases he) (fun e he=>he) (fun e' _ e he=>by cases he) (fun v H' a b c d=>⟨hext_app,hk v H' a b c d⟩)
theorem Does.mono {P:Program} {F:Base} {f:FuncId} {args:Array Value} {H0:Hp} {K K':Value→Hp→Prop} (h:Does P F f args H0 K) (hk:∀ v H,K v H→K' v H):Does P F f args H0 K':=fun w1 hw=>CallG.mono (h w1 hw) hk
theorem Does.of_pure {P:Program} {F:Base} {f:FuncId} {args:Array Value} {v:Value} (h:PureV P F f args v):Does P F f args [] fun v' H=>v'=v∧H=[]:=fun _ _=>CallG.of_pure h ⟨rfl,rfl⟩
theorem does_of_svc {P:Program} {ov:List Nat} {F:Base} {f:Nat} {fn:Func} {fu:Fun} {args:List Value} {H0:Hp} {K:Value→Hp→Prop} (hm:P.follows .mixedOrders=true) (hf:P.funcs[f]?=some fn) (hl:lowF P ov fn=some fu) (hn:args.length≤fu.n)
    (h:∀ w0,(∀ b o,F b=some o→w0.heap[b]?=some o)→svc P (H0.map (·.1)) F w0 fu.n fu.c (numb 0 args) H0 (fin F fu.rv K)):Does P F f args.toArray H0 K:=fun w1 hw=>callG_of_svc hm hf hl hn (h w1 hw)
theorem pureV_of_svcW {P:Program} {ov:List Nat} {F:Base} {f:Nat} {fn:Func} {fu:Fun} {args:List Value} {v:Value} (hm:P.follows .mixedOrders=true) (hf:P.funcs[f]?=some fn) (hl:lowF P ov fn=some fu) (hn:args.length≤fu.n)
    (h:∀ w0,(∀ b o,F b=some o→w0.heap[b]?=some o)→svc P [] F w0 fu.n fu.c (numb 0 args) [] (fin F fu.rv fun v' _=>v'=v)):PureV P F f args.toArray v:=by
  intro w hw
  have hs:Sat [] F w [] w:=⟨rfl,rfl,rfl,Nat.le_refl _,hw,by simp,by simp,by simp,fun _ _ _=>rfl⟩
  refine (callG_of_svc hm hf hl hn (h w hw) w hs).mono ?_
  rintro e w' ⟨v',H',rfl,hs',rfl⟩
  exact ⟨rfl,hs'.os,hs'.tape,hs'.output,hs'.size,fun k hk=>hs'.old k hk (by simp)⟩
inductive OwnS (F:Base) (n T:Nat):List Value→Nat→Value→Hp→Prop
  | nil:OwnS F n T [] 0 (.slice none 0 0) []
  | own (b cap:Nat) (sp l:List Value) (len:Nat) (hF:F b=none) (hl:l.length=len * n) (hs:sp.length=(cap - len) * n) (hc:len≤cap) (hm:cap≤9223372036854775807):OwnS F n T l len (.slice (some ⟨b,0,none⟩) len cap) [(b,.cells (l++sp).toArray T (0,0))]
theorem OwnS.lk {F:Base} {n T:Nat} {l:List Value} {len:Nat} {v:Value} {Ho:Hp} (h:OwnS F n T l len v Ho) (A:Hp) (hd:∀ e'∈A,∀ e∈Ho,e.1≠e'.1):∀ e∈Ho,Eng.lk (A++Ho) e.1=some e.2:=by
  intro e he
  rw [lk_append,lk_none fun e' he'=>(hd e' he' e he).symm]
  simp only
  cases h with
  | nil=>cases he
  | own b cap sp l len hF hl hs hc hcm=>
    simp only [List.mem_singleton] at he
    subst he
    simp [Eng.lk]
theorem OwnS.mono {F:Base} {n T:Nat} {l:List Value} {len:Nat} {v:Value} {Ho:Hp} (h:OwnS F n T l len v Ho) {F':Base} (hF:∀ e∈Ho,F' e.1=none):OwnS F' n T l len v Ho:=by
  cases h with
  | nil=>exact .nil
  | own b cap sp l len hF0 hl hs hc hcm=>exact .own b cap sp l len (hF _ (List.mem_singleton.2 rfl)) hl hs hc hcm
theorem CallG.shr {P:Program} {X:List Nat} {F:Base} {w0:World} {f:FuncId} {args:Array Value} {H:Hp} {K K':Value→Hp→Prop} (h:CallG P X F w0 f args H K) (hk:∀ v H',K v H'→∃ Hc,(∀ e∈Hc,e∈H')∧K' v Hc):CallG P X F w0 f args H K':=
  fun w hs=>(h w hs).mono fun _ _ ⟨v,H',he,hs',hK⟩=>by
    obtain ⟨Hc,h1,h2⟩:=hk v H' hK
    exact ⟨v,Hc,he,hs'.less h1,h2⟩
theorem Does.shr {P:Program} {F:Base} {f:FuncId} {args:Array Value} {H0:Hp} {K K':Value→Hp→Prop} (h:Does P F f args H0 K) (hk:∀ v H',K v H'→∃ Hc,(∀ e∈Hc,e∈H')∧K' v Hc):Does P F f args H0 K':=fun w1 hw=>CallG.shr (h w1 hw) hk
theorem mem_upd_ne {H:Hp} {b:Nat} {o:Obj} {e:Nat×Obj} (h:e∈H) (hne:e.1≠b):e∈upd H b o:=by
  induction H with
  | nil=>cases h
  | cons x r ih=>
    obtain ⟨b',o'⟩:=x
    simp only [upd]
    rcases List.mem_cons.1 h with h | h
    · subst h;simp only at hne;rw [if_neg hne];simp
    · split <;> exact List.mem_cons_of_mem _ (ih h)
theorem rowsOf_sl {F:Base} {H:Hp} {n b off m c:Nat}:rowsOf F H n (.slice (some ⟨b,off,none⟩) m c)=orZ m ((cellsAt F H b off (m * n)).map fun l=>(m,l)):=rfl
theorem orZ_some {m:Nat} {x:Nat×List Value}:orZ m (some x)=some x:=rfl
theorem rowsOf_str {F:Base} {H:Hp} {s:ByteArray}:rowsOf F H 1 (.string s)=some (s.data.toList.length,byteCells s.data.toList):=rfl
theorem rowsOf_nil {F:Base} {H:Hp} {n c:Nat}:rowsOf F H n (.slice none 0 c)=some (0,[]):=rfl
theorem EfL.grow {F:Base} {H Hr Ho:Hp} {n B T len m:Nat} {l nw:List Value} {x y:Value} {K:Value→Hp→Prop} (ho:OwnS F n T l len x Ho) (hH:∀ e∈Ho,lk H e.1=some e.2) (hr:∀ e∈Hr,e∈H) (hd:∀ e'∈Hr,∀ e∈Ho,e.1≠e'.1)
    (hy:rowsOf F H n y=some (m,nw)) (hn:nw.length=m * n) (h1:∀ v∈nw,oneCell v=true) (hm:nw≠[]) (hb:(2 * (len+m)+192) * B≤281474976710656)
    (hk:∀ b cap sp,sp.length=(cap - (len+m)) * n→len+m≤cap→cap≤9223372036854775807→F b=none→(∀ e∈Hr,e.1≠b)→K (.slice (some ⟨b,0,none⟩) (len+m) cap) ((b,.cells (l++nw++sp).toArray T (0,0))::Hr)) :
    @EfL F H (.app n B T) [x,y] ⟨K⟩:=by
  refine EfL.of ?_
  have hnw:m≠0:=fun e=>by subst e;simp at hn;exact hm hn
  show appP F H n B T x y (shrK K)
  unfold appP
  cases ho with
  | nil=>
    simp only [hy]
    refine ⟨fun h=>absurd h (by omega),fun _=>⟨hb,?_⟩⟩
    unfold appNew oldOf
    intro k sp hsp hkm b hb1 hb2
    refine ⟨(b,.cells ([]++nw++sp).toArray T (0,0))::Hr,fun e he=>?_,hk b (0+m+k) sp (by rw [hsp];congr 1;omega) (by omega) hkm hb2 fun e he=>hb1 e (hr e he)⟩
    rcases List.mem_cons.1 he with he | he
    · subst he;exact List.mem_cons_self
    · exact List.mem_cons_of_mem _ (hr e he)
  | own b cap sp l len hF hl hs hc hcm=>
    simp only [hy]
    have hlk:lk H b=some (.cells (l++sp).toArray T (0,0)):=hH _ (List.mem_singleton.2 rfl)
    have hdb:∀ e∈Hr,e.1≠b:=fun e he=>(hd e he _ (List.mem_singleton.2 rfl)).symm
    have hsz:(l++sp).length=cap * n:=by
      rw [List.length_append,hl,hs,← Nat.add_mul];congr 1;omega
    refine ⟨fun hle=>?_,fun _=>⟨hb,?_⟩⟩
    · have hmn:len * n+m * n≤cap * n:=by rw [← Nat.add_mul];exact Nat.mul_le_mul_right _ hle
      have hst:stCells F H b (0+len * n) nw=some (upd H b (.cells (l++nw++sp.drop (m * n)).toArray T (0,0))):=by
        rw [stCells_O hF,hlk,stO_of]
        have hc1:(nw.all oneCell&&!nw.isEmpty&&decide (0+len * n+nw.length≤(l++sp).length))=true:=by
          simp only [Bool.and_eq_true,List.all_eq_true,Bool.not_eq_true',List.isEmpty_eq_false_iff,decide_eq_true_eq]
          exact ⟨⟨h1,hm⟩,by rw [hsz,hn];omega⟩
        rw [if_pos hc1]
        simp only [Option.map_some]
        congr 4
        have e1:List.take (0+len * n) (l++sp)=l:=by rw [Nat.zero_add,← hl];exact List.take_left' rfl
        have e2:List.drop (0+len * n+nw.length) (l++sp)=sp.drop (m * n):=by
          rw [Nat.zero_add,← hl,hn,List.drop_append,List.drop_eq_nil_of_le (by omega)]
          simp
        rw [e1,e2]
      unfold appIn
      cases nw with
      | nil=>exact absurd rfl hm
      | cons v0 nw0=>
        simp only
        rw [hst]
        refine ⟨(b,.cells (l++v0::nw0++sp.drop (m * n)).toArray T (0,0))::Hr,fun e he=>?_,hk b cap _ ?_ hle hcm hF hdb⟩
        · rcases List.mem_cons.1 he with he | he
          · subst he
            exact lk_mem (lk_upd (by rw [hlk];simp))
          · exact mem_upd_ne (hr e he) (hdb e he)
        · rw [List.length_drop,hs,← Nat.sub_mul];congr 1;omega
    · unfold appNew oldOf
      have hc0:cellsAt F H b 0 (len * n)=some l:=by
        rw [cellsAt_O,rdObj_own hF,hlk,cellsO_of,if_pos (by rw [hsz,Nat.zero_add];exact Nat.mul_le_mul_right _ hc),List.drop_zero,← hl,List.take_left' rfl]
      simp only [hc0]
      intro k sp' hsp hkm b' hb1 hb2
      refine ⟨(b',.cells (l++nw++sp').toArray T (0,0))::Hr,fun e he=>?_,hk b' (len+m+k) sp' (by rw [hsp];congr 1;omega) (by omega) hkm hb2 fun e he=>hb1 e (hr e he)⟩
      rcases List.mem_cons.1 he with he | he
      · subst he;exact List.mem_cons_self
      · exact List.mem_cons_of_mem _ (hr e he)
theorem EfL.zero {F:Base} {H:Hp} {n B T len cap:Nat} {base:Option Addr} {y:Value} {K:Value→Hp→Prop} (hy:rowsOf F H n y=some (0,[])) (hc:len≤cap) (hk:K (.slice base len cap) H):@EfL F H (.app n B T) [.slice base len cap,y] ⟨K⟩:=by
  refine EfL.of ?_
  show appP F H n B T _ y (shrK K)
  unfold appP
  simp only [hy]
  refine ⟨fun _=>?_,fun h=>absurd h (by omega)⟩
  unfold appIn
  exact ⟨H,fun _ h=>h,hk⟩
theorem EfL.mkMap {F:Base} {H:Hp} {K:Value→Hp→Prop} (h:∀ b,(∀ e∈H,e.1≠b)→F b=none→K (.map (some b)) ((b,.map #[] 0)::H)):@EfL F H .mkMap [] ⟨K⟩:=
  EfL.of fun b h1 h2=>⟨_,fun _ he=>he,h b h1 h2⟩
theorem EfL.get {F:Base} {H:Hp} {d:TypeDesc} {z m k:Value} {ok:Bool} {es:List MapEntry} {r:Option (Nat×Value)} {K:Value→Hp→Prop} (hm:mapEs F H m=some es) (hf:Instr.findNow d k es 0=some r) (h:K (getV z ok r) H) :
    @EfL F H (.mapGet d z ok) [m,k] ⟨K⟩:=by
  refine EfL.of ?_
  simp only [efP,hm,hf]
  exact ⟨H,fun _ he=>he,h⟩
theorem EfL.ins {F:Base} {H:Hp} {d:TypeDesc} {b c:Nat} {k v:Value} {es:Array MapEntry} {K:Value→Hp→Prop} (hF:F b=none) (hl:lk H b=some (.map es c)) (hf:Instr.findNow d k es.toList 0=some none) (h:K undef (upd H b (.map (es.push { key:=k,val:=v,born:=c }) (c+1)))) :
    @EfL F H (.mapSet d) [.map (some b),k,v] ⟨K⟩:=by
  refine EfL.of ?_
  simp only [efP,setP,hF,hl,hf]
  exact ⟨_,fun _ he=>he,h⟩
theorem EfL.len {F:Base} {H:Hp} {m:Value} {es:List MapEntry} {K:Value→Hp→Prop} (hm:mapEs F H m=some es) (h:K (.int .i64 es.length) H):@EfL F H .mapLen [m] ⟨K⟩:=by
  refine EfL.of ?_
  simp only [efP,hm]
  exact ⟨H,fun _ he=>he,h⟩
def entL:List (List UInt8)→Nat→List MapEntry
  | [],_=>[]
  | k::r,i=>{ key:=.string (bs k),val:=.bool true,born:=i }::entL r (i+1)
def MapK (ks:List (List UInt8)):Obj:=.map (entL ks 0).toArray ks.length
theorem entL_app:∀ (ks l:List (List UInt8)) (i:Nat),entL (ks++l) i=entL ks i++entL l (i+ks.length)
  | [],l,i=>by simp [entL]
  | k::r,l,i=>by
    have e:i+(r.length+1)=i+1+r.length:=by omega
    simp only [List.cons_append,entL,entL_app r l (i+1),List.length_cons,e]
theorem bs_beq (k x:List UInt8):(bs k==bs x)=(k==x):=by
  show ((bs k).data==(bs x).data)=(k==x)
  simp [bs]
theorem findNow_entL (k:List UInt8):∀ (ks:List (List UInt8)) (i j:Nat),Instr.findNow .string (.string (bs k)) (entL ks i) j=some (if k∈ks then some (j+ks.idxOf k,.bool true) else none)
  | [],i,j=>by simp [entL,Instr.findNow]
  | x :: r,i,j=>by
    have hs:Instr.sameNow .string (.string (bs k)) (.string (bs x))=some (k==x):=by rw [← bs_beq];rfl
    rw [entL,Instr.findNow,hs]
    by_cases h:k=x
    · subst h
      simp
    · have hb:(k==x)=false:=by simpa using h
      have h':¬ x=k:=fun e=>h e.symm
      rw [hb]
      simp only
      rw [findNow_entL k r (i+1) (j+1)]
      by_cases hm:k∈r
      · have:(x::r).idxOf k=r.idxOf k+1:=by
          have hxk:(x==k)=false:=by simpa using h'
          rw [List.idxOf_cons,hxk];rfl
        have e:j+1+r.idxOf k=j+(r.idxOf k+1):=by omega
        simp only [hm,if_true,List.mem_cons,or_true,this,e]
      · simp [hm,h]
theorem EfL.setK {F:Base} {H:Hp} {b:Nat} {ks:List (List UInt8)} {k:List UInt8} {K:Value→Hp→Prop} (hF:F b=none) (hl:lk H b=some (MapK ks)) (hk:k∉ks) (h:K undef (upd H b (MapK (ks++[k])))) :
    @EfL F H (.mapSet .string) [.map (some b),.string (bs k),.bool true] ⟨K⟩:=by
  refine EfL.of ?_
  simp only [efP,setP,hF,hl]
  unfold MapK
  simp only [findNow_entL,hk,if_false]
  refine ⟨_,fun _ he=>he,?_⟩
  have e:(entL ks 0).toArray.push { key:=.string (bs k),val:=.bool true,born:=ks.length }=(entL (ks++[k]) 0).toArray:=by
    rw [entL_app];simp [entL]
  rw [e]
  have e2:ks.length+1=(ks++[k]).length:=by simp
  rw [e2]
  exact h
theorem OwnS.len_le {F:Base} {n T:Nat} {l:List Value} {len:Nat} {v:Value} {Ho:Hp} (h:OwnS F n T l len v Ho):∃ base cap,v=.slice base len cap∧len≤cap:=by
  cases h with
  | nil=>exact ⟨none,0,rfl,Nat.le_refl _⟩
  | own b cap sp l len hF hl hs hc hcm=>exact ⟨_,cap,rfl,hc⟩
theorem OwnS.out {F:Base} {n T:Nat} {l:List Value} {len:Nat} {v:Value} {Ho:Hp} (h:OwnS F n T l len v Ho):(l=[]∧len=0∧v=.slice none 0 0∧Ho=[]) ∨
    ∃ b cap sp,v=.slice (some ⟨b,0,none⟩) len cap∧Ho=[(b,.cells (l++sp).toArray T (0,0))]∧F b=none∧l.length=len * n∧sp.length=(cap - len) * n∧len≤cap∧cap≤9223372036854775807:=by
  cases h with
  | nil=>exact .inl ⟨rfl,rfl,rfl,rfl⟩
  | own b cap sp l len hF hl hs hc hcm=>exact .inr ⟨b,cap,sp,rfl,rfl,hF,hl,hs,hc,hcm⟩
theorem OwnS.hle {F:Base} {n T:Nat} {l:List Value} {len:Nat} {v:Value} {Ho:Hp} (h:OwnS F n T l len v Ho) (A:Hp) (hd:∀ e'∈A,∀ e∈Ho,e.1≠e'.1):HLe Ho (A++Ho):=by
  have hl:=h.lk A hd
  rcases h.out with ⟨-,-,-,rfl⟩ | ⟨b,cap,sp,-,rfl,-⟩
  · trivial
  · exact ⟨hl _ (List.mem_singleton.2 rfl),trivial⟩
theorem OwnS.mk {F:Base} {n T:Nat} {l cs:List Value} {len len2 b cap:Nat} (sp:List Value) (hF:F b=none) (hcs:cs=l++sp) (hlen:len2=len) (hl:l.length=len * n) (hs:sp.length=(cap - len) * n) (hc:len≤cap) (hm:cap≤9223372036854775807) :
    OwnS F n T l len (.slice (some ⟨b,0,none⟩) len2 cap) [(b,.cells cs.toArray T (0,0))]:=by
  subst hcs hlen;exact .own b cap sp l _ hF hl hs hc hm
theorem take_bytes {l:List UInt8} {m:List Value}:(byteCells l++m).take l.length=byteCells l:=List.take_left' (byteCells_len l)
theorem Does.up {P:Program} {F F':Base} {f:FuncId} {args:Array Value} {K:Value→Hp→Prop} (h:Does P F f args [] K) (hF:∀ b o,F b=some o→F' b=some o):Does P F' f args [] K:=fun w1 hw=>
  CallG.frame (Hr:=[]) h (fun b o hb=>by unfold rdObj;rw [hF b o hb]) (fun e he=>by cases he) (fun e he=>by cases he) (fun e he=>by cases he) (fun v H' hK _ _ _=>by simpa using hK)
theorem entL_get:∀ (ks:List (List UInt8)) (i j:Nat) (_:j < ks.length),(entL ks i)[j]?=some { key:=.string (bs (ks.getD j [])),val:=.bool true,born:=i+j }
  | k::r,i,0,h=>by simp [entL]
  | k::r,i,j+1,h=>by
    rw [entL,List.getElem?_cons_succ,entL_get r (i+1) j (by simpa using h)]
    simp only [List.getD_cons_succ]
    congr 2;omega
theorem entL_len:∀ (ks:List (List UInt8)) (i:Nat),(entL ks i).length=ks.length
  | [],_=>rfl
  | k::r,i=>by rw [entL,List.length_cons,entL_len r,List.length_cons]
theorem modify_same {α:Type} {a:Array α} {i:Nat} {f:α→α} (h:∀ x,a[i]?=some x→f x=x):a.modify i f=a:=by
  apply Array.ext
  · simp
  · intro j h1 h2
    rw [Array.getElem_modify]
    split
    · rename_i e;subst e;exact h _ (Array.getElem?_eq_getElem h2)
    · rfl
theorem sameBits_s (n:Nat) (s:ByteArray):Instr.sameBits (n+1) (.string s) (.string s)=true:=by
  show (s==s)=true
  first | (show (s.data==s.data)=true;exact beq_self_eq_true _) | exact (beq_iff_eq.2 rfl) | exact decide_eq_true rfl
theorem EfL.setK_in {F:Base} {H:Hp} {b:Nat} {ks:List (List UInt8)} {k:List UInt8} {K:Value→Hp→Prop} (hF:F b=none) (hl:lk H b=some (MapK ks)) (hk:k∈ks) (h:K undef (upd H b (MapK ks))) :
    @EfL F H (.mapSet .string) [.map (some b),.string (bs k),.bool true] ⟨K⟩:=by
  refine EfL.of ?_
  simp only [efP,setP,hF,hl]
  unfold MapK
  simp only [findNow_entL,hk,if_true]
  have hi:ks.idxOf k < ks.length:=List.idxOf_lt_length_of_mem hk
  have hg:=entL_get ks 0 (ks.idxOf k) hi
  have hkk:ks.getD (ks.idxOf k) []=k:=by rw [List.getD_eq_getElem?_getD,List.getElem?_eq_getElem hi];simp
  rw [hkk] at hg
  have hg':(entL ks 0).toArray[ks.idxOf k]?=some { key:=.string (bs k),val:=.bool true,born:=0+ks.idxOf k }:=by simpa using hg
  simp only [Nat.zero_add] at hg' ⊢
  refine ⟨?_,_,fun _ he=>he,?_⟩
  · rw [hg'];exact sameBits_s 9999 _
  · rw [modify_same fun x hx=>by rw [hg'] at hx;simp only [Option.some.injEq] at hx;subst hx;rfl]
    exact h
theorem EfL.lenK {F:Base} {H:Hp} {b:Nat} {ks:List (List UInt8)} {K:Value→Hp→Prop} (hF:F b=none) (hl:lk H b=some (MapK ks)) (h:K (.int .i64 ks.length) H):@EfL F H .mapLen [.map (some b)] ⟨K⟩:=by
  have hm:mapEs F H (.map (some b))=some (entL ks 0):=by
    have h0:rdObj F H b=some (MapK ks):=by unfold rdObj;rw [hF];exact hl
    simp only [mapEs,h0,MapK]
  exact EfL.len hm (by rw [entL_len];exact h)
end Go.Eng
namespace Go.Eng
open Go
def Nb (b:Nat):Hp→Prop
  | []=>True
  | (c,_)::r=>c≠b∧b≠c∧Nb b r
theorem Nb.iff {b:Nat}:∀ {H:Hp},Nb b H↔∀ e∈H,e.1≠b
  | []=>by simp [Nb]
  | (c,o)::r=>by
    rw [Nb,Nb.iff (H:=r),List.forall_mem_cons]
    exact ⟨fun h=>⟨h.1,h.2.2⟩,fun h=>⟨h.1,h.1.symm,h.2⟩⟩
theorem Nb.all {b:Nat} {H:Hp} (h:Nb b H):∀ e∈H,e.1≠b:=Nb.iff.1 h
theorem Nb.of {b:Nat} {H:Hp} (h:∀ e∈H,e.1≠b):Nb b H:=Nb.iff.2 h
theorem Nb_nil {b:Nat}:Nb b []=True:=rfl
theorem Nb_cons {b c:Nat} {o:Obj} {r:Hp}:Nb b ((c,o)::r)=(c≠b∧b≠c∧Nb b r):=rfl
theorem Nb_app {b:Nat} {A B:Hp}:Nb b (A++B)=(Nb b A∧Nb b B):=by
  rw [eq_iff_iff,Nb.iff,Nb.iff,Nb.iff,List.forall_mem_append]
theorem upd_nb {b:Nat} {G:Hp} {o:Obj} (h:Nb b G):upd G b o=G:=upd_new h.all
theorem lk_nb {b:Nat} {G:Hp} (h:Nb b G):lk G b=none:=lk_none h.all
def Dj:Hp→Hp→Prop
  | [],_=>True
  | (c,_)::r,G=>Nb c G∧Dj r G
theorem Dj.iff {G:Hp}:∀ {A:Hp},Dj A G↔∀ e∈A,∀ e'∈G,e'.1≠e.1
  | []=>by simp [Dj]
  | (c,o)::r=>by rw [Dj,Dj.iff (A:=r),List.forall_mem_cons,Nb.iff]
theorem Dj_nil {G:Hp}:Dj [] G=True:=rfl
theorem Dj_cons {c:Nat} {o:Obj} {r G:Hp}:Dj ((c,o)::r) G=(Nb c G∧Dj r G):=rfl
theorem Dj.app {A B C:Hp} (h:Dj A B) (k:Dj A C):Dj A (B++C):=Dj.iff.2 fun e he e' he'=>(List.mem_append.1 he').elim (Dj.iff.1 h e he e') (Dj.iff.1 k e he e')
def Nf (F:Base):Hp→Prop
  | []=>True
  | (c,_)::r=>F c=none∧Nf F r
theorem Nf.iff {F:Base}:∀ {A:Hp},Nf F A↔∀ e∈A,F e.1=none
  | []=>by simp [Nf]
  | (c,o)::r=>by rw [Nf,Nf.iff (A:=r),List.forall_mem_cons]
theorem Nf_nil {F:Base}:Nf F []=True:=rfl
theorem Nf_cons {F:Base} {c:Nat} {o:Obj} {r:Hp}:Nf F ((c,o)::r)=(F c=none∧Nf F r):=rfl
def Wk (G:Hp):Prop:=∀ e∈G,lk G e.1=some e.2
theorem Wk.nil:Wk []:=fun e h=>by cases h
theorem Wk_nil:Wk []=True:=eq_true Wk.nil
theorem Wk.cons {b:Nat} {o:Obj} {G:Hp} (hn:∀ e∈G,e.1≠b) (h:Wk G):Wk ((b,o)::G):=fun e he=>by
  rcases List.mem_cons.1 he with rfl | he
  · simp [lk]
  · simp only [lk];rw [if_neg fun x=>hn e he x.symm];exact h e he
theorem Wk.cb {b:Nat} {o:Obj} {G:Hp} (h:Wk G) (hn:Nb b G):Wk ((b,o)::G):=Wk.cons hn.all h
theorem Wk.app {G G':Hp} (h:Wk G) (h':Wk G') (hd:∀ e∈G,∀ e'∈G',e'.1≠e.1):Wk (G++G'):=fun e he=>by
  rw [lk_append]
  rcases List.mem_append.1 he with he | he
  · rw [h e he]
  · rw [lk_none fun e' he'=>(hd e' he' e he).symm];exact h' e he
theorem HLe_self {G:Hp} (h:Wk G):HLe G G=True:=by
  have key:∀ B:Hp,(∀ e∈B,lk G e.1=some e.2)→HLe B G:=fun B=>by
    induction B with
    | nil=>intro _;trivial
    | cons e r ih=>
      obtain ⟨b,o⟩:=e
      intro h
      exact ⟨h _ List.mem_cons_self,ih fun e he=>h e (List.mem_cons_of_mem _ he)⟩
  exact eq_true (key G h)
theorem HLe_skip {c:Nat} {o:Obj} {H:Hp}:∀ {G:Hp},Nb c G→HLe G ((c,o)::H)=HLe G H
  | [],_=>rfl
  | (b,o')::r,h=>by
    rw [HLe_cons,HLe_cons,HLe_skip h.2.2,lk_ne h.2.1]
theorem HLe_app {A B H:Hp}:HLe (A++B) H=(HLe A H∧HLe B H):=by
  rw [eq_iff_iff]
  induction A with
  | nil=>simp [HLe_nil]
  | cons e r ih=>obtain ⟨b,o⟩:=e;rw [List.cons_append,HLe_cons,HLe_cons,ih,and_assoc]
theorem HLe.of' {A H:Hp} (h:∀ e∈A,lk H e.1=some e.2):HLe A H:=by
  induction A with
  | nil=>trivial
  | cons e r ih=>
    obtain ⟨b,o⟩:=e
    exact ⟨h _ List.mem_cons_self,ih fun e he=>h e (List.mem_cons_of_mem _ he)⟩
theorem HLe_apl {A B:Hp} (h:Wk A):HLe A (A++B)=True:=eq_true (.of' fun e he=>by rw [lk_append,h e he])
theorem HLe_apr {A B G:Hp} (h:Dj A G):HLe G (A++B)=HLe G B:=by
  have d:=Dj.iff.1 h
  have key:∀ {e:Nat×Obj},e∈G→lk (A++B) e.1=lk B e.1:=fun {e} he=>by rw [lk_append,lk_none fun e' he'=>(d e' he' e he).symm]
  clear h d
  induction G with
  | nil=>rfl
  | cons e r ih=>obtain ⟨b,o⟩:=e;rw [HLe_cons,HLe_cons,key List.mem_cons_self,ih fun {e} he=>key (List.mem_cons_of_mem _ he)]
theorem NewB.n {F:Base} {H:Hp} {o:Obj} {k:Nat→Hp→Prop} (h:∀ b,Nb b H→F b=none→k b ((b,o)::H)):@NewB F H o ⟨k⟩:=fun b hb hF=>h b (Nb.of hb) hF
class Tl (H:Hp) (Hl G:outParam Hp):Prop where
  eq:H=Hl++G
instance Tl.z:Tl [] [] []:=⟨rfl⟩
instance (priority:=10) Tl.g {G:Hp}:Tl G [] G:=⟨rfl⟩
instance Tl.c {e:Nat×Obj} {r Hl G:Hp} [h:Tl r Hl G]:Tl (e::r) (e::Hl) G:=⟨by rw [h.eq];rfl⟩
class Sp (b:Nat) (H:Hp) (o:outParam Obj) (Hl G:outParam Hp):Prop where
  mem:(b,o)∈H
  sub:∀ e∈Hl,e∈H
  subG:∀ e∈G,e∈H
instance Sp.here {b:Nat} {o:Obj} {r Hl G:Hp} [h:Tl r Hl G]:Sp b ((b,o)::r) o Hl G:=
  ⟨List.mem_cons_self,fun e he=>List.mem_cons_of_mem _ (by rw [h.eq];exact List.mem_append_left _ he),fun e he=>List.mem_cons_of_mem _ (by rw [h.eq];exact List.mem_append_right _ he)⟩
instance (priority:=10) Sp.skip {b c:Nat} {o o':Obj} {r Hl G:Hp} [h:Sp b r o Hl G]:Sp b ((c,o')::r) o ((c,o')::Hl) G:=
  ⟨List.mem_cons_of_mem _ h.mem,fun e he=>(List.mem_cons.1 he).elim (fun h1=>by rw [h1];exact List.mem_cons_self) fun h1=>List.mem_cons_of_mem _ (h.sub e h1),fun e he=>List.mem_cons_of_mem _ (h.subG e he)⟩
instance (priority:=500) Tl.a {A r Hl G:Hp} [h:Tl r Hl G]:Tl (A++r) (A++Hl) G:=⟨by rw [h.eq,List.append_assoc]⟩
theorem Dj_app {A B G:Hp}:Dj (A++B) G=(Dj A G∧Dj B G):=by
  rw [eq_iff_iff,Dj.iff,Dj.iff,Dj.iff,List.forall_mem_append]
theorem Dj_apr {A B G:Hp}:Dj A (B++G)=(Dj A B∧Dj A G):=by
  rw [eq_iff_iff,Dj.iff,Dj.iff,Dj.iff]
  exact ⟨fun h=>⟨fun e he e' k=>h e he e' (List.mem_append_left _ k),fun e he e' k=>h e he e' (List.mem_append_right _ k)⟩,fun h e he e' k=>(List.mem_append.1 k).elim (h.1 e he e') (h.2 e he e')⟩
theorem Dj_z {A:Hp}:Dj A []=True:=eq_true (Dj.iff.2 fun e _ e' h=>by cases h)
theorem Nf_app {F:Base} {A B:Hp}:Nf F (A++B)=(Nf F A∧Nf F B):=by
  rw [eq_iff_iff,Nf.iff,Nf.iff,Nf.iff,List.forall_mem_append]
theorem Dj.symm {A B:Hp} (h:Dj A B):Dj B A:=Dj.iff.2 fun e he e' he'=>(Dj.iff.1 h e' he' e he).symm
class Po (H Ho:Hp) (A R:outParam Hp):Prop where
  eq:H=A++(Ho++R)
instance Po.here {Ho R:Hp}:Po (Ho++R) Ho [] R:=⟨rfl⟩
instance Po.c {e:Nat×Obj} {r Ho A R:Hp} [h:Po r Ho A R]:Po (e::r) Ho (e::A) R:=⟨by rw [h.eq];rfl⟩
instance (priority:=500) Po.a {B r Ho A R:Hp} [h:Po r Ho A R]:Po (B++r) Ho (B++A) R:=⟨by rw [h.eq,List.append_assoc]⟩
theorem OwnS.noF {F:Base} {n T len:Nat} {l:List Value} {v:Value} {Ho:Hp} (h:OwnS F n T l len v Ho):Nf F Ho:=by
  cases h with
  | nil=>trivial
  | own b2 cap sp l len hF2 hl hs hc hm=>exact ⟨hF2,trivial⟩
theorem EfL.more {F:Base} {H A R Ho:Hp} {n B T len m:Nat} {l nw:List Value} {x y:Value} {K:Value→Hp→Prop} [po:Po H Ho A R] (ho:OwnS F n T l len x Ho) (sd:Dj A Ho∧Dj R Ho)
    (hy:rowsOf F H n y=some (m,nw)) (hn:nw.length=m * n) (h1:∀ v∈nw,oneCell v=true) (hm:nw≠[]) (hb:(2 * (len+m)+192) * B≤281474976710656)
    (hk:∀ b cap sp,sp.length=(cap - (len+m)) * n→len+m≤cap→cap≤9223372036854775807→F b=none→Nb b (A++R)→K (.slice (some ⟨b,0,none⟩) (len+m) cap) ((b,.cells (l++nw++sp).toArray T (0,0))::(A++R))) :
    @EfL F H (.app n B T) [x,y] ⟨K⟩:=by
  obtain rfl:=po.eq
  have d1:=Dj.iff.1 sd.1
  have d2:=Dj.iff.1 sd.2
  refine EfL.grow (Hr:=A++R) (m:=m) (nw:=nw) ho (fun e he=>?_) (fun e he=>?_) (fun e' he' e he=>?_) hy hn h1 hm hb fun b cap sp k1 k2 k3 k4 k5=>hk b cap sp k1 k2 k3 k4 (Nb.of k5)
  · rw [lk_append,lk_none fun e' he'=>(d1 e' he' e he).symm,lk_append]
    have:=ho.lk [] (fun _ h=>by cases h) e he
    rw [List.nil_append] at this
    rw [this]
  · rcases List.mem_append.1 he with h | h <;> simp [h]
  · rcases List.mem_append.1 he' with h | h
    · exact d1 e' h e he
    · exact d2 e' h e he
def Side (F:Base) (b:Nat) (Hl G:Hp):Prop:=F b=none∧Nb b Hl∧Nb b G∧Dj Hl G∧Nf F Hl∧Wk G
theorem Side_eq {F:Base} {b:Nat} {Hl G:Hp}:Side F b Hl G=(F b=none∧Nb b Hl∧Nb b G∧Dj Hl G∧Nf F Hl∧Wk G):=rfl
theorem rdObj_nb {F:Base} {H:Hp} {b:Nat} (hF:F b=none) (h:Nb b H):rdObj F H b=none:=by rw [rdObj_own hF];exact lk_none h.all
def orO (a b:Option Obj):Option Obj:=match a with
  | some o=>some o
  | none=>b
theorem orO_some {o:Obj} {b:Option Obj}:orO (some o) b=some o:=rfl
theorem orO_none {b:Option Obj}:orO none b=b:=rfl
theorem RO {F:Base} {H:Hp} {b:Nat}:rdObj F H b=orO (F b) (lk H b):=by unfold rdObj orO;rfl
end Go.Eng
namespace Go.Eng
open Go
set_option maxRecDepth 10000
set_option linter.defProp false
def ZD:=(And.intro (And.intro (And.intro (And.intro (And.intro (And.intro @svc_tree @svT_done) (And.intro @svT_op (And.intro @svT_alt @stp_call_g))) (And.intro (And.intro @stp_callV_g (And.intro @rounds_s @roundK_n)) (And.intro @roundK_x (And.intro @roundK_r @invK_x)))) (And.intro (And.intro (And.intro @invK_r @svc_skip) (And.intro @svc_reg (And.intro @svc_seq @svc_cond))) (And.intro (And.intro @svc_block (And.intro @svc_loop @svc_exit)) (And.intro @svc_ret (And.intro @svc_scope @jqK_n))))) (And.intro (And.intro (And.intro (And.intro @jqK_r @jqK_x) (And.intro @jiK_n (And.intro @jiK_r @jiK_x))) (And.intro (And.intro @seqK_n (And.intro @seqK_x @seqK_r)) (And.intro @blockK_n (And.intro @blockK_x @blockK_r)))) (And.intro (And.intro (And.intro @nK_eq @fin_n) (And.intro @fin_r (And.intro @svL_nil @svL_cons))) (And.intro (And.intro @put_none (And.intro @put_nil @put_cons)) (And.intro @qend_true (And.intro @qend_eq @stp_mv)))))) (And.intro (And.intro (And.intro (And.intro (And.intro @stp_pick @stp_bin) (And.intro @stp_beq (And.intro @stp_ueq @stp_un))) (And.intro (And.intro @stp_conv (And.intro @stp_add @stp_fld)) (And.intro @stp_ixA (And.intro @stp_ixS @stp_ixStr)))) (And.intro (And.intro (And.intro @stp_ixAgg @stp_ld) (And.intro @stp_ext (And.intro @stp_lenStr @stp_lenSl))) (And.intro (And.intro @stp_mkF (And.intro @stp_build @stp_slStr)) (And.intro @stp_slS (And.intro @stp_slA @stp_mx))))) (And.intro (And.intro (And.intro (And.intro @stp_mn @stp_bstr) (And.intro @stp_call_q (And.intro @stp_call_e @stp_callV_q))) (And.intro (And.intro @stp_callV_e (And.intro @stp_alloc @stp_box)) (And.intro @stp_bslice (And.intro @stp_store @stp_sbytes)))) (And.intro (And.intro (And.intro @stp_xcall (And.intro @stp_ef @stp_nck)) (And.intro @lkU_cons (And.intro @lkC_cons @rds_cons))) (And.intro (And.intro @resL_t (And.intro @resL_cell @fillL_cons)) (And.intro @memG_cons (And.intro @freeG_cons @cfree_cons)))))))
def ZU:=(And.intro (And.intro (And.intro (And.intro (And.intro (And.intro (And.intro @svT_stop (And.intro @bs_app @bs_size)) (And.intro (And.intro @tdiv_nn @tmod_nn) (And.intro @wrap_u64_id @byteCells_len))) (And.intro (And.intro @bstrC_some (And.intro @u8s_nil @u8s_i)) (And.intro (And.intro @ofNat_toNat @ofNat_toNat') (And.intro @u8s_byteCells @and_32)))) (And.intro (And.intro (And.intro @and_32' (And.intro @or_32 @or_32')) (And.intro (And.intro @fdiv_32 @in_i64) (And.intro @in_u64 @in_u8))) (And.intro (And.intro @nckV_of (And.intro @rowsOf_sl @orZ_some)) (And.intro (And.intro @rowsOf_str @rowsOf_nil) (And.intro @blockK_x' @put_nil'))))) (And.intro (And.intro (And.intro (And.intro @bindO_some (And.intro @bindO_none @bindG_eq)) (And.intro (And.intro @owe_nil @owe_cons) (And.intro @conj_true @conj_false))) (And.intro (And.intro @chain_none (And.intro @rd_c @rd_t0)) (And.intro (And.intro @lkU_nil @lkC_nil) (And.intro @lkIf_t @lkIf_f)))) (And.intro (And.intro (And.intro @rd_tc (And.intro @rdC_some @rdC_none)) (And.intro (And.intro @rds_nil @rdsC_some) (And.intro @chain_some @resL_nil))) (And.intro (And.intro @cellO_of (And.intro @aggO_t @aggO_f)) (And.intro (And.intro @fillL_nil @fillD_of) (And.intro @fillC_agg @fillC_none)))))) (And.intro (And.intro (And.intro (And.intro (And.intro @fillC_int (And.intro @fillC_bool @fillC_string)) (And.intro (And.intro @fillC_slice @fillC_pointer) (And.intro @fillC_func @fillC_map))) (And.intro (And.intro @Int.cast_ofNat_Int (And.intro @List.toList_toArray.{0} @Option.getD_some.{0})) (And.intro (And.intro @Option.getD_none.{0} @lk_eq) (And.intro @lk_ne @lk_nb)))) (And.intro (And.intro (And.intro @upd_eq (And.intro @upd_ne @upd_nil)) (And.intro (And.intro @upd_nb @Nb_nil) (And.intro @Nb_cons @Nb_app))) (And.intro (And.intro @Dj_nil (And.intro @Dj_cons @Dj_app)) (And.intro (And.intro @Dj_apr @Dj_z) (And.intro @Nf_nil @Nf_cons))))) (And.intro (And.intro (And.intro (And.intro @Nf_app (And.intro @Wk_nil @HLe_self)) (And.intro (And.intro @HLe_skip @Le_nil) (And.intro @Le_cons @HLe_nil))) (And.intro (And.intro @HLe_cons (And.intro @HLe_app @HLe_apl)) (And.intro (And.intro @HLe_apr @Side_eq) (And.intro @rdObj_own @rdObj_base)))) (And.intro (And.intro (And.intro @orO_some (And.intro @orO_none @cellsAt_O)) (And.intro (And.intro @take_bytes @List.length_append.{0}) (And.intro @Nat.le_add_right @cellsO_of))) (And.intro (And.intro (And.intro @stCells_O @stO_of) (And.intro @memG_nil @freeG_nil)) (And.intro (And.intro @cfree_nil @boolO_of) (And.intro @ptrO_of @strO_of))))))) (And.intro (And.intro (And.intro (And.intro (And.intro (And.intro @slO_of (And.intro @pickO_bb @pickO_of)) (And.intro (And.intro @beqV_of @ueqV_of) (And.intro @unV_neg @unV_not))) (And.intro (And.intro @convV_of (And.intro @addV_of @fldV_of)) (And.intro (And.intro @ixAV_of @ixSV_of) (And.intro @ixSV_nil @ixSV_spot)))) (And.intro (And.intro (And.intro @addV_undef (And.intro @ldV_undef @beqV_undef)) (And.intro (And.intro @ixStrV_of @ixAggV_of) (And.intro @extV_of @lenStrV_of))) (And.intro (And.intro @lenSlV_of (And.intro @mxV_of @mnV_of)) (And.intro (And.intro @ldV_of @ldC_agg) (And.intro @ldC_one @bstrV_nil))))) (And.intro (And.intro (And.intro (And.intro @bstrV_of (And.intro @binq_add @binq_sub)) (And.intro (And.intro @binq_mul @binq_eql) (And.intro @binq_neq @binq_lss))) (And.intro (And.intro @binq_leq (And.intro @binq_gtr @binq_geq)) (And.intro (And.intro @binq_quo @binq_rem) (And.intro @binq_and_u64 @binq_or_u64)))) (And.intro (And.intro (And.intro @binq_shl_u64 (And.intro @binq_shr_u64 @binq_and_i64)) (And.intro (And.intro @binq_or_i64 @binq_shl_i64) (And.intro @binq_shr_i64 @binq_and_u8))) (And.intro (And.intro (And.intro @binq_or_u8 @binq_shl_u8) (And.intro @binq_shr_u8 @binq_sadd)) (And.intro (And.intro @binq_seql @binq_sneq) (And.intro @binq_slss @binq_sleq)))))) (And.intro (And.intro (And.intro (And.intro (And.intro @binq_sgtr (And.intro @binq_sgeq @rdB_none)) (And.intro (And.intro @rdB_some @bound_of) (And.intro @sstrV_eq @sslV_eq))) (And.intro (And.intro @sarV_eq (And.intro @cond_tt @cond_ff)) (And.intro (And.intro @Option.map_some.{0,0} @Option.map_none.{0,0}) (And.intro @Option.bind_some.{0,0} @Option.bind_none.{0,0})))) (And.intro (And.intro (And.intro @List.cons_append.{0} (And.intro @List.nil_append.{0} @List.length_cons.{0})) (And.intro (And.intro @List.length_nil.{0} @List.drop_zero.{0}) (And.intro @List.drop_succ_cons.{0} @List.take_succ_cons.{0}))) (And.intro (And.intro @List.take_zero.{0} (And.intro @List.drop_nil.{0} @List.take_nil.{0})) (And.intro (And.intro @List.append_nil.{0} @List.all_cons.{0}) (And.intro @List.all_nil.{0} @List.isEmpty_cons.{0}))))) (And.intro (And.intro (And.intro (And.intro @List.size_toArray.{0} (And.intro @List.getElem?_toArray.{0} @List.getElem?_cons_zero.{0})) (And.intro (And.intro @List.getElem?_cons_succ.{0} @List.getD_cons_zero.{0}) (And.intro @List.getD_cons_succ.{0} @mapMO_cons))) (And.intro (And.intro @mapMO_nil (And.intro @Nat.zero_add @Nat.add_zero)) (And.intro (And.intro @Nat.le_refl @Nat.zero_le) (And.intro @Int.toNat_zero @Int.toNat_one)))) (And.intro (And.intro (And.intro @Int.zero_add (And.intro @bs_len @bs_list)) (And.intro (And.intro @Bool.and_true @Bool.true_and) (And.intro @Bool.and_self @Bool.not_true))) (And.intro (And.intro (And.intro @Bool.not_false @Bool.and_false) (And.intro @Bool.or_false @Bool.or_true)) (And.intro (And.intro @Bool.true_or @Bool.false_or) (And.intro @Bool.false_and @Bool.false_eq_true))))))))
theorem lit_t {n b:Nat}:lit (.t n) b=[2 * n+b]:=rfl
theorem lit_c {v:Value} {b:Nat}:lit (.c v) b=[]:=rfl
theorem isPar_e {l:Nat}:isPar l=(l % 2==1):=rfl
theorem numb_n {i:Nat}:numb i []=[]:=rfl
theorem numb_c {i:Nat} {v:Value} {r:List Value}:numb i (v::r)=(i,some v)::numb (i+1) r:=rfl
theorem Wf_n {U:Fr} {C:Cf} {G:List Nat}:Wf U C G []=True:=rfl
theorem Wf_c {U:Fr} {C:Cf} {G r:List Nat} {l:Nat}:Wf U C G (l::r)=((match rd U C G (.t (l / 2)) with
    | some (.bool p)=>p=isPar l
    | _=>True)∧Wf U C G r):=rfl
theorem resV_1 {v:Value}:resV [v]=v:=rfl
theorem resV_0:resV []=.tuple (List.toArray []):=rfl
theorem resV_2 {v u:Value} {r:List Value}:resV (v::u::r)=.tuple (v::u::r).toArray:=rfl
theorem subG_n {G:List Nat}:subG [] G=true:=rfl
theorem subG_c {l:Nat} {r G:List Nat}:subG (l::r) G=(memG l G&&subG r G):=rfl
theorem isB_b {b:Bool}:isB (.bool b)=True:=rfl
theorem asB_b {b:Bool}:asB (.bool b)=b:=rfl
theorem one_agg {c:Array Value}:oneCell (.agg c)=false:=rfl
theorem one_tup {c:Array Value}:oneCell (.tuple c)=false:=rfl
theorem cells_agg {c:Array Value}:Value.cells (.agg c)=c:=rfl
theorem one_0 {b:Bool}:oneCell (.bool b)=true:=rfl
theorem cel_0 {b:Bool}:Value.cells (.bool b)=#[(.bool b)]:=rfl
theorem one_1 {k:IntKind} {n:Int}:oneCell (.int k n)=true:=rfl
theorem cel_1 {k:IntKind} {n:Int}:Value.cells (.int k n)=#[(.int k n)]:=rfl
theorem isB_1 {k:IntKind} {n:Int}:isB (.int k n)=False:=rfl
theorem one_2 {f:FloatKind} {n:Nat}:oneCell (.float f n)=true:=rfl
theorem cel_2 {f:FloatKind} {n:Nat}:Value.cells (.float f n)=#[(.float f n)]:=rfl
theorem isB_2 {f:FloatKind} {n:Nat}:isB (.float f n)=False:=rfl
theorem one_3 {f:FloatKind} {n m:Nat}:oneCell (.complex f n m)=true:=rfl
theorem cel_3 {f:FloatKind} {n m:Nat}:Value.cells (.complex f n m)=#[(.complex f n m)]:=rfl
theorem isB_3 {f:FloatKind} {n m:Nat}:isB (.complex f n m)=False:=rfl
theorem one_4 {s:ByteArray}:oneCell (.string s)=true:=rfl
theorem cel_4 {s:ByteArray}:Value.cells (.string s)=#[(.string s)]:=rfl
theorem isB_4 {s:ByteArray}:isB (.string s)=False:=rfl
theorem one_5 {a:Option Addr}:oneCell (.pointer a)=true:=rfl
theorem cel_5 {a:Option Addr}:Value.cells (.pointer a)=#[(.pointer a)]:=rfl
theorem isB_5 {a:Option Addr}:isB (.pointer a)=False:=rfl
theorem one_6 {a:Option Addr} {n m:Nat}:oneCell (.slice a n m)=true:=rfl
theorem cel_6 {a:Option Addr} {n m:Nat}:Value.cells (.slice a n m)=#[(.slice a n m)]:=rfl
theorem isB_6 {a:Option Addr} {n m:Nat}:isB (.slice a n m)=False:=rfl
theorem one_7 {r:Option Nat}:oneCell (.map r)=true:=rfl
theorem cel_7 {r:Option Nat}:Value.cells (.map r)=#[(.map r)]:=rfl
theorem isB_7 {r:Option Nat}:isB (.map r)=False:=rfl
theorem one_8 {r:Option Nat}:oneCell (.chan r)=true:=rfl
theorem cel_8 {r:Option Nat}:Value.cells (.chan r)=#[(.chan r)]:=rfl
theorem isB_8 {r:Option Nat}:isB (.chan r)=False:=rfl
theorem one_9 {g:Fn} {x y:Array Value}:oneCell (.func g x y)=true:=rfl
theorem cel_9 {g:Fn} {x y:Array Value}:Value.cells (.func g x y)=#[(.func g x y)]:=rfl
theorem isB_9 {g:Fn} {x y:Array Value}:isB (.func g x y)=False:=rfl
theorem one_10 :oneCell .nilFunc=true:=rfl
theorem cel_10 :Value.cells .nilFunc=#[.nilFunc]:=rfl
theorem isB_10 :isB .nilFunc=False:=rfl
theorem one_11 {n:TypeId} {v:Value}:oneCell (.iface n v)=true:=rfl
theorem cel_11 {n:TypeId} {v:Value}:Value.cells (.iface n v)=#[(.iface n v)]:=rfl
theorem isB_11 {n:TypeId} {v:Value}:isB (.iface n v)=False:=rfl
theorem one_12 :oneCell .nilIface=true:=rfl
theorem cel_12 :Value.cells .nilIface=#[.nilIface]:=rfl
theorem isB_12 :isB .nilIface=False:=rfl
def ZR:=(And.intro (And.intro (And.intro (And.intro (And.intro (And.intro @ne_eq.{1} @false_implies) (And.intro @if_false.{1} @if_true.{1})) (And.intro (And.intro @not_true_eq_false @not_false_eq_true) (And.intro @true_and (And.intro @and_true @false_and)))) (And.intro (And.intro (And.intro @and_false @forall_const.{0}) (And.intro @forall_const.{1} @implies_true.{0})) (And.intro (And.intro @implies_true.{1} @decide_true) (And.intro @decide_false (And.intro @cond_true.{1} @cond_false.{1}))))) (And.intro (And.intro (And.intro (And.intro @beq_self_eq_true.{0} @lit_t) (And.intro @lit_c @isPar_e)) (And.intro (And.intro @numb_n @numb_c) (And.intro @Wf_n (And.intro @Wf_c @resV_1)))) (And.intro (And.intro (And.intro @resV_0 @resV_2) (And.intro @subG_n (And.intro @subG_c @isB_b))) (And.intro (And.intro @asB_b @one_agg) (And.intro @one_tup (And.intro @cells_agg @one_0)))))) (And.intro (And.intro (And.intro (And.intro (And.intro @cel_0 @one_1) (And.intro @cel_1 @isB_1)) (And.intro (And.intro @one_2 @cel_2) (And.intro @isB_2 (And.intro @one_3 @cel_3)))) (And.intro (And.intro (And.intro @isB_3 @one_4) (And.intro @cel_4 @isB_4)) (And.intro (And.intro @one_5 @cel_5) (And.intro @isB_5 (And.intro @one_6 @cel_6))))) (And.intro (And.intro (And.intro (And.intro @isB_6 @one_7) (And.intro @cel_7 @isB_7)) (And.intro (And.intro @one_8 @cel_8) (And.intro @isB_8 (And.intro @one_9 @cel_9)))) (And.intro (And.intro (And.intro @isB_9 @one_10) (And.intro @cel_10 (And.intro @isB_10 @one_11))) (And.intro (And.intro @cel_11 @isB_11) (And.intro @one_12 (And.intro @cel_12 @isB_12)))))))
def ZW:=And.intro ZU ZR
end Go.Eng
