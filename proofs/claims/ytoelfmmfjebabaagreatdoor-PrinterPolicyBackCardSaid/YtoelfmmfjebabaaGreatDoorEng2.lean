/- The engine, part 1: classes of worlds over a tracked heap; a weakest precondition of the model's own commands over them. -/
import Derived.WalkKit
import Derived.Deep.Quiet
namespace Go.Eng
open Go
abbrev Hp:=List (Nat×Obj)
abbrev Base:=Nat→Option Obj
structure Sat (X:List Nat) (F:Base) (w0:World) (H:Hp) (w:World):Prop where
  os:w.os=w0.os
  tape:w.tape=w0.tape
  output:w.output=w0.output
  size:w0.heap.size≤w.heap.size
  base:∀ b o,F b=some o→w.heap[b]?=some o
  own:∀ e∈H,w.heap[e.1]?=some e.2
  apart:∀ e∈H,F e.1=none
  fresh:∀ e∈H,e.1∈X∨w0.heap.size≤e.1
  old:∀ k,k < w0.heap.size→k∉X→w.heap[k]?=w0.heap[k]?
def lk:Hp→Nat→Option Obj
  | [],_=>none
  | (b',o)::r,b=>if b'=b then some o else lk r b
def rdObj (F:Base) (H:Hp) (b:Nat):Option Obj:=match F b with
  | some o=>some o
  | none=>lk H b
def cellOf (o:Option Obj) (a:Addr):Option Value:=match o with
  | some (.cells c _ _)=>if a.spot.isSome then none else c[a.off]?
  | _=>none
def frozenOf (o:Option Obj) (a:Addr):Bool:=match o with
  | some (.cells _ _ (lo,hi))=>lo≤a.off&&a.off < hi
  | _=>false
def shapeOf (o:Option Obj):Option (TypeId×Nat):=match o with
  | some (.cells c e _)=>some (e,c.size)
  | _=>none
def upd (H:Hp) (b:Nat) (o:Obj):Hp:=match H with
  | []=>[]
  | (b',o')::r=>if b'=b then (b',o)::upd r b o else (b',o')::upd r b o
theorem lk_mem {H:Hp} {b:Nat} {o:Obj} (h:lk H b=some o):(b,o)∈H:=by
  induction H with
  | nil=>simp [lk] at h
  | cons e r ih=>
    obtain ⟨b',o'⟩:=e
    simp only [lk] at h
    split at h
    · rename_i e;subst e;simp at h;simp [h]
    · exact List.mem_cons_of_mem _ (ih h)
theorem mem_upd {H:Hp} {b:Nat} {o:Obj} {e:Nat×Obj} (h:e∈upd H b o):(e.1=b∧e.2=o∧∃ o',(b,o')∈H)∨(e.1≠b∧e∈H):=by
  induction H with
  | nil=>simp [upd] at h
  | cons x r ih=>
    obtain ⟨b',o'⟩:=x
    simp only [upd] at h
    split at h
    · rename_i hb
      subst hb
      rcases List.mem_cons.1 h with h | h
      · subst h;exact .inl ⟨rfl,rfl,o',by simp⟩
      · rcases ih h with ⟨h1,h2,o'',h3⟩ | ⟨h1,h2⟩
        · exact .inl ⟨h1,h2,o'',by simp [h3]⟩
        · exact .inr ⟨h1,List.mem_cons_of_mem _ h2⟩
    · rename_i hb
      rcases List.mem_cons.1 h with h | h
      · subst h;exact .inr ⟨hb,by simp⟩
      · rcases ih h with ⟨h1,h2,o'',h3⟩ | ⟨h1,h2⟩
        · exact .inl ⟨h1,h2,o'',by simp [h3]⟩
        · exact .inr ⟨h1,List.mem_cons_of_mem _ h2⟩
section
variable {X:List Nat} {F:Base} {w0 w:World} {H:Hp}
theorem Sat.rd (h:Sat X F w0 H w) {b:Nat} {o:Obj} (hr:rdObj F H b=some o):w.heap[b]?=some o:=by
  unfold rdObj at hr
  cases hF:F b with
  | some o'=>rw [hF] at hr;simp at hr;subst hr;exact h.base b _ hF
  | none=>rw [hF] at hr;exact h.own _ (lk_mem hr)
theorem Sat.cell (h:Sat X F w0 H w) {a:Addr} {v:Value} (hc:cellOf (rdObj F H a.block) a=some v):w.cell? a=some v:=by
  unfold cellOf at hc
  split at hc
  · rename_i c e f ho
    have:=h.rd ho
    simp only [World.cell?,this]
    exact hc
  · cases hc
theorem Sat.frozen (h:Sat X F w0 H w) {b:Nat} {o:Obj} (hr:rdObj F H b=some o) (a:Addr) (ha:a.block=b):w.frozen? a=frozenOf (some o) a:=by
  subst ha
  have:=h.rd hr
  unfold World.frozen? frozenOf
  rw [this]
  cases o <;> rfl
theorem Sat.key_lt (h:Sat X F w0 H w):∀ e∈H,e.1 < w.heap.size:=fun e he=>by
  have:=h.own e he
  rcases Nat.lt_or_ge e.1 w.heap.size with h1 | h1
  · exact h1
  · simp [Array.getElem?_eq_none h1] at this
theorem Sat.base_new (h:Sat X F w0 H w):F w.heap.size=none:=by
  cases hF:F w.heap.size with
  | none=>rfl
  | some o=>have:=h.base _ _ hF;simp at this
theorem Sat.new (h:Sat X F w0 H w) (o:Obj):Sat X F w0 ((w.heap.size,o)::H) { w with heap:=w.heap.push o } where
  os:=h.os
  tape:=h.tape
  output:=h.output
  size:=by simp;have:=h.size;omega
  base b o' hb:=by
    have:=h.base b o' hb
    show (w.heap.push o)[b]?=_
    rw [Array.getElem?_push]
    split
    · subst_vars;simp at this
    · exact this
  own e he:=by
    show (w.heap.push o)[e.1]?=_
    rcases List.mem_cons.1 he with he | he
    · subst he;simp
    · have:=h.own e he
      have hl:=h.key_lt e he
      rw [Array.getElem?_push,if_neg (by omega)];exact this
  apart e he:=by
    rcases List.mem_cons.1 he with he | he
    · subst he;exact h.base_new
    · exact h.apart e he
  fresh e he:=by
    rcases List.mem_cons.1 he with he | he
    · subst he;exact .inr h.size
    · exact h.fresh e he
  old k hk hX:=by
    show (w.heap.push o)[k]?=_
    have:=h.size
    rw [Array.getElem?_push,if_neg (by omega)];exact h.old k hk hX
theorem Sat.drew (h:Sat X F w0 H w) (n:Nat):Sat X F w0 H { w with drawn:=n }:=⟨h.os,h.tape,h.output,h.size,h.base,h.own,h.apart,h.fresh,h.old⟩
theorem Sat.put (h:Sat X F w0 H w) {b:Nat} {o:Obj} {w':World} (hm:∃ o',(b,o')∈H) (hos:w'.os=w.os) (ht:w'.tape=w.tape) (hout:w'.output=w.output)
    (hb:w'.heap[b]?=some o) (hs:w'.heap.size=w.heap.size) (hk:∀ k,k≠b→w'.heap[k]?=w.heap[k]?):Sat X F w0 (upd H b o) w' where
  os:=hos.trans h.os
  tape:=ht.trans h.tape
  output:=hout.trans h.output
  size:=hs ▸ h.size
  base b' o' hF:=by
    obtain ⟨o2,hm⟩:=hm
    have hne:b'≠b:=fun e=>by subst e;have:=h.apart _ hm;simp [hF] at this
    rw [hk b' hne];exact h.base _ _ hF
  own e he:=by
    rcases mem_upd he with ⟨h1,h2,_⟩ | ⟨h1,h2⟩
    · rw [h1,h2];exact hb
    · rw [hk _ h1];exact h.own e h2
  apart e he:=by
    rcases mem_upd he with ⟨h1,h2,o',h3⟩ | ⟨h1,h2⟩
    · rw [h1];exact h.apart _ h3
    · exact h.apart e h2
  fresh e he:=by
    rcases mem_upd he with ⟨h1,h2,o',h3⟩ | ⟨h1,h2⟩
    · rw [h1];exact h.fresh _ h3
    · exact h.fresh e h2
  old k hk' hX:=by
    obtain ⟨o2,hm⟩:=hm
    have hne:k≠b:=fun e=>by
      subst e
      rcases h.fresh _ hm with h1 | h1
      · exact hX h1
      · exact absurd h1 (by simpa using hk')
    rw [hk k hne];exact h.old k hk' hX
theorem Sat.less (h:Sat X F w0 H w) {H':Hp} (hs:∀ e∈H',e∈H):Sat X F w0 H' w:=
  ⟨h.os,h.tape,h.output,h.size,h.base,fun e he=>h.own e (hs e he),fun e he=>h.apart e (hs e he),fun e he=>h.fresh e (hs e he),h.old⟩
end
def oneCell:Value→Bool
  | .agg _=>false
  | .tuple _=>false
  | _=>true
def stH (F:Base) (H:Hp) (a:Addr) (v:Value):Option Hp:=
  if oneCell v then
    match F a.block,lk H a.block with
    | none,some (.cells c e fz)=>if a.spot.isSome then none else if a.off < c.size then if fz.1≤a.off&&a.off < fz.2 then none else some (upd H a.block (.cells (c.setIfInBounds a.off v) e fz)) else none
    | _,_=>none
  else none
def frH (F:Base) (H:Hp) (a:Addr) (n:Nat):Option Hp:=
  if n=0 then some H else
  match F a.block,lk H a.block with
  | none,some (.cells c e (lo,hi))=>some (upd H a.block (.cells c e (if lo==hi then (a.off,a.off+n) else (min lo a.off,max hi (a.off+n)))))
  | _,_=>none
def soH (F:Base) (H:Hp) (r:Nat) (o:Obj):Option Hp:=
  match F r,lk H r with
  | none,some (.cells ..)=>none
  | none,some _=>some (upd H r o)
  | _,_=>none
def sem {α:Type} (P:Program) (F:Base):Sem α→Hp→(α→Hp→Prop)→Prop
  | .pure a,H,K=>K a H
  | .load _ a k,H,K=>match cellOf (rdObj F H a.block) a with
    | some v=>sem P F (k v) H K
    | none=>False
  | .store _ a v k,H,K=>match stH F H a v with
    | some H'=>sem P F k H' K
    | none=>False
  | .new o k,H,K=>∀ b,(∀ e∈H,e.1≠b)→F b=none→sem P F (k b) ((b,o)::H) K
  | .shape r k,H,K=>match rdObj F H r with
    | some o=>sem P F (k (shapeOf (some o))) H K
    | none=>False
  | .freeze a n k,H,K=>match frH F H a n with
    | some H'=>sem P F k H' K
    | none=>False
  | .frozen a k,H,K=>match rdObj F H a.block with
    | some o=>sem P F (k (frozenOf (some o) a)) H K
    | none=>False
  | .getObj r k,H,K=>match rdObj F H r with
    | some (.cells ..)=>False
    | some o=>sem P F (k o) H K
    | none=>False
  | .setObj r o k,H,K=>match soH F H r o with
    | some H'=>sem P F k H' K
    | none=>False
  | .choose q k,H,K=>if q.forced then sem P F (k 0) H K else ∀ t,sem P F (k (q.cut t)) H K
  | .sys _ _,_,_=>False
  | .program k,H,K=>sem P F (k P) H K
  | .mark _ k,H,K=>sem P F k H K
  | .halt _,_,_=>False
theorem sem_sound {α:Type} {P:Program} {X:List Nat} {F:Base} {w0:World} (s:Sem α):∀ (H:Hp) (w:World) (K:α→Hp→Prop),sem P F s H K→Sat X F w0 H w →
    ∃ x w' H',s.run P w=.ok x w'∧Sat X F w0 H' w'∧K x H':=by
  induction s with
  | pure a=>exact fun H w K h hs=>⟨a,w,H,rfl,hs,h⟩
  | load m a k ih=>
    intro H w K h hs
    simp only [sem] at h
    split at h
    · rename_i v hv
      simp only [Sem.run,hs.cell hv]
      exact ih v H w K h hs
    · exact h.elim
  | store m a v k ih=>
    intro H w K h hs
    simp only [sem] at h
    split at h
    case h_2=>exact h.elim
    rename_i H' hH
    unfold stH at hH
    split at hH
    case isFalse=>cases hH
    rename_i hone
    split at hH
    case h_2=>cases hH
    rename_i c e fz hF hl
    split at hH
    · cases hH
    rename_i hsp
    split at hH
    case isFalse=>cases hH
    rename_i hoff
    split at hH
    · cases hH
    rename_i hfz
    simp only [Option.some.injEq] at hH
    subst hH
    have hm:=lk_mem hl
    have hb:w.heap[a.block]?=some (.cells c e fz):=hs.own _ hm
    have hcell:w.cell? a=some c[a.off]:=by
      simp only [World.cell?,hb]
      rw [if_neg hsp,Array.getElem?_eq_getElem hoff]
    have hfr:w.frozen? a=false:=by
      simp only [World.frozen?,hb]
      obtain ⟨lo,hi⟩:=fz
      simpa using hfz
    have hrun:(Sem.store m a v k).run P w=k.run P (w.setCell a v):=by
      cases v <;> first | (simp [oneCell] at hone;done) | (simp [Sem.run,hcell,hfr])
    rw [hrun]
    refine ih _ _ K h (hs.put (w':=w.setCell a v) ⟨_,hm⟩ rfl rfl rfl ?_ (by simp [World.setCell]) fun k hk=>?_)
    · simp only [World.setCell,Array.getElem?_modify,if_true,hb,Option.map_some]
      simp [hsp]
    · simp only [World.setCell,Array.getElem?_modify]
      rw [if_neg (by omega)]
  | new o k ih=>
    intro H w K h hs
    simp only [sem] at h
    simp only [Sem.run]
    exact ih _ _ _ K (h w.heap.size (fun e he=>Nat.ne_of_lt (hs.key_lt e he)) hs.base_new) (hs.new o)
  | shape r k ih=>
    intro H w K h hs
    simp only [sem] at h
    split at h
    case h_2=>exact h.elim
    rename_i o ho
    have hb:=hs.rd ho
    have:w.shape? r=shapeOf (some o):=by simp only [World.shape?,shapeOf,hb];cases o <;> rfl
    simp only [Sem.run,this]
    exact ih _ H w K h hs
  | freeze a n k ih=>
    intro H w K h hs
    simp only [sem] at h
    split at h
    case h_2=>exact h.elim
    rename_i H' hH
    simp only [Sem.run]
    unfold frH at hH
    split at hH
    · rename_i hn
      subst hn
      simp only [Option.some.injEq] at hH
      subst hH
      rw [show w.freeze a 0=w from rfl]
      exact ih _ _ K h hs
    · rename_i hn
      split at hH
      case h_2=>cases hH
      rename_i c e lo hi hF hl
      simp only [Option.some.injEq] at hH
      subst hH
      have hm:=lk_mem hl
      have hb:w.heap[a.block]?=some (.cells c e (lo,hi)):=hs.own _ hm
      refine ih _ _ K h (hs.put (w':=w.freeze a n) ⟨_,hm⟩ ?_ ?_ ?_ ?_ ?_ fun k hk=>?_)
      · simp [World.freeze,hn]
      · simp [World.freeze,hn]
      · simp [World.freeze,hn]
      · simp only [World.freeze,hn,if_false,Array.getElem?_modify,if_true,hb,Option.map_some]
      · simp [World.freeze,hn]
      · simp only [World.freeze,hn,if_false,Array.getElem?_modify]
        rw [if_neg (by omega)]
  | frozen a k ih=>
    intro H w K h hs
    simp only [sem] at h
    split at h
    case h_2=>exact h.elim
    rename_i o ho
    simp only [Sem.run,hs.frozen ho a rfl]
    exact ih _ H w K h hs
  | getObj r k ih=>
    intro H w K h hs
    simp only [sem] at h
    split at h
    · exact h.elim
    · rename_i o hno ho
      have hb:=hs.rd ho
      have hrun:(Sem.getObj r k).run P w=(k o).run P w:=by
        simp only [Sem.run,hb]
      rw [hrun]
      exact ih _ H w K h hs
    · exact h.elim
  | setObj r o k ih=>
    intro H w K h hs
    simp only [sem] at h
    split at h
    case h_2=>exact h.elim
    rename_i H' hH
    unfold soH at hH
    split at hH
    · cases hH
    · rename_i o' hno hF hl
      simp only [Option.some.injEq] at hH
      subst hH
      have hm:=lk_mem hl
      have hb:w.heap[r]?=some o':=hs.own _ hm
      have hlt:r < w.heap.size:=hs.key_lt _ hm
      have hrun:(Sem.setObj r o k).run P w=k.run P { w with heap:=w.heap.setIfInBounds r o }:=by
        simp only [Sem.run,hb]
      rw [hrun]
      refine ih _ _ K h (hs.put (w':={ w with heap:=w.heap.setIfInBounds r o }) ⟨_,hm⟩ rfl rfl rfl ?_ (by simp) fun k hk=>?_)
      · simp [hlt]
      · show (w.heap.setIfInBounds r o)[k]?=_
        rw [Array.getElem?_setIfInBounds_ne (by omega)]
    · cases hH
  | choose q k ih=>
    intro H w K h hs
    simp only [sem] at h
    simp only [Sem.run]
    split
    · rename_i hq;rw [if_pos hq] at h;exact ih _ H w K h hs
    · rename_i hq;rw [if_neg hq] at h;exact ih _ H _ K (h _) (hs.drew _)
  | sys c k ih=>exact fun H w K h _=>h.elim
  | program k ih=>
    intro H w K h hs
    simp only [sem] at h
    exact ih P H w K h hs
  | mark m k ih=>
    intro H w K h hs
    simp only [sem] at h
    exact ih H w K h hs
  | halt x=>exact fun H w K h _=>h.elim
theorem sem_mono {α:Type} {P:Program} {F:Base} (s:Sem α):∀ (H:Hp) (K K':α→Hp→Prop),(∀ x H',K x H'→K' x H')→sem P F s H K→sem P F s H K':=by
  induction s with
  | pure a=>exact fun H K K' hk h=>hk _ _ h
  | load m a k ih=>intro H K K' hk h;simp only [sem] at h ⊢;split at h <;> first | (exact ih _ _ _ _ hk h) | (exact h.elim)
  | store m a v k ih=>intro H K K' hk h;simp only [sem] at h ⊢;split at h <;> first | (exact ih _ _ _ hk h) | (exact h.elim)
  | new o k ih=>intro H K K' hk h;simp only [sem] at h ⊢;exact fun b h1 h2=>ih _ _ _ _ hk (h b h1 h2)
  | shape r k ih=>intro H K K' hk h;simp only [sem] at h ⊢;split at h <;> first | (exact ih _ _ _ _ hk h) | (exact h.elim)
  | freeze a n k ih=>intro H K K' hk h;simp only [sem] at h ⊢;split at h <;> first | (exact ih _ _ _ hk h) | (exact h.elim)
  | frozen a k ih=>intro H K K' hk h;simp only [sem] at h ⊢;split at h <;> first | (exact ih _ _ _ _ hk h) | (exact h.elim)
  | getObj r k ih=>intro H K K' hk h;simp only [sem] at h ⊢;split at h <;> first | (exact h.elim) | (exact ih _ _ _ _ hk h)
  | setObj r o k ih=>intro H K K' hk h;simp only [sem] at h ⊢;split at h <;> first | (exact ih _ _ _ hk h) | (exact h.elim)
  | choose q k ih=>
    intro H K K' hk h;simp only [sem] at h ⊢
    by_cases hq:q.forced=true
    · rw [if_pos hq] at h ⊢;exact ih _ _ _ _ hk h
    · rw [if_neg hq] at h ⊢;exact fun t=>ih _ _ _ _ hk (h t)
  | sys c k ih=>exact fun H K K' hk h=>h.elim
  | program k ih=>intro H K K' hk h;simp only [sem] at h ⊢;exact ih _ _ _ _ hk h
  | mark m k ih=>intro H K K' hk h;simp only [sem] at h ⊢;exact ih _ _ _ hk h
  | halt x=>exact fun H K K' hk h=>h.elim
theorem sem_bind {α β:Type} {P:Program} {F:Base} (s:Sem α):∀ (f:α→Sem β) (H:Hp) (K:β→Hp→Prop),sem P F (s >>= f) H K↔sem P F s H (fun x H'=>sem P F (f x) H' K):=by
  show ∀ (f:α→Sem β) (H:Hp) (K:β→Hp→Prop),sem P F (s.bind f) H K↔_
  induction s with
  | pure a=>exact fun f H K=>Iff.rfl
  | load m a k ih=>intro f H K;simp only [sem,Sem.bind];split <;> first | (exact ih _ _ _ _) | (exact Iff.rfl)
  | store m a v k ih=>intro f H K;simp only [sem,Sem.bind];split <;> first | (exact ih _ _ _) | (exact Iff.rfl)
  | new o k ih=>intro f H K;simp only [sem,Sem.bind];exact forall_congr' fun b=>imp_congr_right fun _=>imp_congr_right fun _=>ih _ _ _ _
  | shape r k ih=>intro f H K;simp only [sem,Sem.bind];split <;> first | (exact ih _ _ _ _) | (exact Iff.rfl)
  | freeze a n k ih=>intro f H K;simp only [sem,Sem.bind];split <;> first | (exact ih _ _ _) | (exact Iff.rfl)
  | frozen a k ih=>intro f H K;simp only [sem,Sem.bind];split <;> first | (exact ih _ _ _ _) | (exact Iff.rfl)
  | getObj r k ih=>intro f H K;simp only [sem,Sem.bind];split <;> first | (exact Iff.rfl) | (exact ih _ _ _ _)
  | setObj r o k ih=>intro f H K;simp only [sem,Sem.bind];split <;> first | (exact ih _ _ _) | (exact Iff.rfl)
  | choose q k ih=>intro f H K;simp only [sem,Sem.bind];split <;> first | (exact ih _ _ _ _) | (exact forall_congr' fun t=>ih _ _ _ _)
  | sys c k ih=>exact fun f H K=>Iff.rfl
  | program k ih=>intro f H K;simp only [sem,Sem.bind];exact ih _ _ _ _
  | mark m k ih=>intro f H K;simp only [sem,Sem.bind];exact ih _ _ _
  | halt x=>exact fun f H K=>Iff.rfl
def semq {α:Type} (P:Program) (F:Base) (H:Hp):Sem α→(α→Prop)→Prop
  | .pure a,K=>K a
  | .load _ a k,K=>match cellOf (rdObj F H a.block) a with
    | some v=>semq P F H (k v) K
    | none=>False
  | .shape r k,K=>match rdObj F H r with
    | some o=>semq P F H (k (shapeOf (some o))) K
    | none=>False
  | .frozen a k,K=>match rdObj F H a.block with
    | some o=>semq P F H (k (frozenOf (some o) a)) K
    | none=>False
  | .getObj r k,K=>match rdObj F H r with
    | some (.cells ..)=>False
    | some o=>semq P F H (k o) K
    | none=>False
  | .choose q k,K=>if q.forced then semq P F H (k 0) K else False
  | .program k,K=>semq P F H (k P) K
  | .mark _ k,K=>semq P F H k K
  | _,_=>False
def Hext (F:Base) (H H':Hp):Prop:=∀ b o,rdObj F H b=some o→rdObj F H' b=some o
theorem Hext.refl (F:Base) (H:Hp):Hext F H H:=fun _ _ h=>h
theorem Hext.trans {F:Base} {A B C:Hp} (h:Hext F A B) (k:Hext F B C):Hext F A C:=fun b o e=>k b o (h b o e)
theorem Hext.new {F:Base} {H:Hp} {b:Nat} {o:Obj} (h1:∀ e∈H,e.1≠b):Hext F H ((b,o)::H):=by
  intro b' o' hr
  unfold rdObj at hr ⊢
  cases hF:F b' with
  | some o2=>rw [hF] at hr;exact hr
  | none=>
    rw [hF] at hr
    have hm:=lk_mem hr
    have:=h1 _ hm
    simp only [lk]
    rw [if_neg (fun e=>this e.symm)];exact hr
theorem semq_ext {α:Type} {P:Program} {F:Base} {H H':Hp} (hx:Hext F H H') (s:Sem α):∀ (K:α→Prop),semq P F H s K→semq P F H' s K:=by
  have hc:∀ a v,cellOf (rdObj F H (Addr.block a)) a=some v→cellOf (rdObj F H' a.block) a=some v:=fun a v h=>by
    cases ho:rdObj F H a.block with
    | none=>rw [ho] at h;cases h
    | some o=>rw [hx _ _ ho];rw [ho] at h;exact h
  induction s with
  | pure a=>exact fun K h=>h
  | load m a k ih=>
    intro K h;simp only [semq] at h ⊢;split at h
    · rename_i v hv;rw [hc _ _ hv];exact ih _ _ h
    · exact h.elim
  | shape r k ih=>
    intro K h;simp only [semq] at h ⊢;split at h
    · rename_i o ho;rw [hx _ _ ho];exact ih _ _ h
    · exact h.elim
  | frozen a k ih=>
    intro K h;simp only [semq] at h ⊢;split at h
    · rename_i o ho;rw [hx _ _ ho];exact ih _ _ h
    · exact h.elim
  | getObj r k ih=>
    intro K h;simp only [semq] at h ⊢;split at h
    · exact h.elim
    · rename_i o hno ho
      rw [hx _ _ ho]
      cases o <;> first | exact ih _ _ h | exact (hno _ _ _ rfl).elim
    · exact h.elim
  | choose q k ih=>
    intro K h;simp only [semq] at h ⊢
    by_cases hq:q.forced=true
    · rw [if_pos hq] at h ⊢;exact ih _ _ h
    · rw [if_neg hq] at h;exact h.elim
  | program k ih=>intro K h;simp only [semq] at h ⊢;exact ih _ _ h
  | mark m k ih=>intro K h;simp only [semq] at h ⊢;exact ih _ h
  | _=>exact fun K h=>h.elim
theorem sem_of_semq {α:Type} {P:Program} {F:Base} {H:Hp} (s:Sem α):∀ (K:α→Prop),semq P F H s K→sem P F s H (fun x H'=>H'=H∧K x):=by
  induction s with
  | pure a=>exact fun K h=>⟨rfl,h⟩
  | load m a k ih=>intro K h;simp only [semq,sem] at h ⊢;split at h <;> first | (exact ih _ _ h) | (exact h.elim)
  | shape r k ih=>intro K h;simp only [semq,sem] at h ⊢;split at h <;> first | (exact ih _ _ h) | (exact h.elim)
  | frozen a k ih=>intro K h;simp only [semq,sem] at h ⊢;split at h <;> first | (exact ih _ _ h) | (exact h.elim)
  | getObj r k ih=>intro K h;simp only [semq,sem] at h ⊢;split at h <;> first | (exact h.elim) | (exact ih _ _ h)
  | choose q k ih=>
    intro K h;simp only [semq,sem] at h ⊢
    by_cases hq:q.forced=true
    · rw [if_pos hq] at h ⊢;exact ih _ _ h
    · rw [if_neg hq] at h;exact h.elim
  | program k ih=>intro K h;simp only [semq,sem] at h ⊢;exact ih _ _ h
  | mark m k ih=>intro K h;simp only [semq,sem] at h ⊢;exact ih _ h
  | _=>exact fun K h=>h.elim
theorem semq_mono {α:Type} {P:Program} {F:Base} {H:Hp} (s:Sem α):∀ (K K':α→Prop),(∀ x,K x→K' x)→semq P F H s K→semq P F H s K':=by
  induction s with
  | pure a=>exact fun K K' hk h=>hk _ h
  | load m a k ih=>intro K K' hk h;simp only [semq] at h ⊢;split at h <;> first | (exact ih _ _ _ hk h) | (exact h.elim)
  | shape r k ih=>intro K K' hk h;simp only [semq] at h ⊢;split at h <;> first | (exact ih _ _ _ hk h) | (exact h.elim)
  | frozen a k ih=>intro K K' hk h;simp only [semq] at h ⊢;split at h <;> first | (exact ih _ _ _ hk h) | (exact h.elim)
  | getObj r k ih=>intro K K' hk h;simp only [semq] at h ⊢;split at h <;> first | (exact h.elim) | (exact ih _ _ _ hk h)
  | choose q k ih=>
    intro K K' hk h;simp only [semq] at h ⊢
    by_cases hq:q.forced=true
    · rw [if_pos hq] at h ⊢;exact ih _ _ _ hk h
    · rw [if_neg hq] at h;exact h.elim
  | program k ih=>intro K K' hk h;simp only [semq] at h ⊢;exact ih _ _ _ hk h
  | mark m k ih=>intro K K' hk h;simp only [semq] at h ⊢;exact ih _ _ hk h
  | _=>exact fun K K' hk h=>h.elim
theorem semq_bind {α β:Type} {P:Program} {F:Base} {H:Hp} (s:Sem α):∀ (f:α→Sem β) (K:β→Prop),semq P F H (s >>= f) K↔semq P F H s (fun x=>semq P F H (f x) K):=by
  show ∀ (f:α→Sem β) (K:β→Prop),semq P F H (s.bind f) K↔_
  induction s with
  | pure a=>exact fun f K=>Iff.rfl
  | load m a k ih=>intro f K;simp only [semq,Sem.bind];split <;> first | (exact ih _ _ _) | (exact Iff.rfl)
  | shape r k ih=>intro f K;simp only [semq,Sem.bind];split <;> first | (exact ih _ _ _) | (exact Iff.rfl)
  | frozen a k ih=>intro f K;simp only [semq,Sem.bind];split <;> first | (exact ih _ _ _) | (exact Iff.rfl)
  | getObj r k ih=>intro f K;simp only [semq,Sem.bind];split <;> first | (exact Iff.rfl) | (exact ih _ _ _)
  | choose q k ih=>intro f K;simp only [semq,Sem.bind];split <;> first | (exact ih _ _ _) | (exact Iff.rfl)
  | program k ih=>intro f K;simp only [semq,Sem.bind];exact ih _ _ _
  | mark m k ih=>intro f K;simp only [semq,Sem.bind];exact ih _ _
  | _=>exact fun f K=>Iff.rfl
end Go.Eng
namespace Go.Eng
open Go
def PureV (P:Program) (F:Base) (f:FuncId) (args:Array Value) (v:Value):Prop:=
  ∀ w,(∀ b o,F b=some o→w.heap[b]?=some o)→Calls P f args w (fun e w'=>e=.returned v∧RowKit.Below w.heap.size w w')
def CallG (P:Program) (X:List Nat) (F:Base) (w0:World) (f:FuncId) (args:Array Value) (H:Hp) (K:Value→Hp→Prop):Prop:=
  ∀ w,Sat X F w0 H w→Calls P f args w (fun e w'=>∃ v H',e=.returned v∧Sat X F w0 H' w'∧K v H')
theorem Sat.below {X:List Nat} {F:Base} {w0 w w':World} {H:Hp} (h:Sat X F w0 H w) (hb:RowKit.Below w.heap.size w w'):Sat X F w0 H w' where
  os:=hb.os.trans h.os
  tape:=hb.tape.trans h.tape
  output:=hb.output.trans h.output
  size:=Nat.le_trans h.size hb.size
  base b o hF:=by
    have:=h.base b o hF
    have hlt:b < w.heap.size:=by
      rcases Nat.lt_or_ge b w.heap.size with h1 | h1
      · exact h1
      · simp [Array.getElem?_eq_none h1] at this
    rw [hb.block b hlt];exact this
  own e he:=by rw [hb.block _ (h.key_lt e he)];exact h.own e he
  apart:=h.apart
  fresh:=h.fresh
  old k hk hX:=by rw [hb.block k (Nat.lt_of_lt_of_le hk h.size)];exact h.old k hk hX
theorem CallG.of_pure {P:Program} {X:List Nat} {F:Base} {w0:World} {f:FuncId} {args:Array Value} {v:Value} (h:PureV P F f args v) {H:Hp} {K:Value→Hp→Prop} (hK:K v H) :
    CallG P X F w0 f args H K:=fun w hs=>(h w hs.base).mono fun _ _ ⟨he,hb⟩=>⟨v,H,he,hs.below hb,hK⟩
theorem PureV.mono {P:Program} {F F':Base} {f:FuncId} {args:Array Value} {v:Value} (h:PureV P F f args v) (hF:∀ b o,F b=some o→F' b=some o):PureV P F' f args v:=
  fun w hw=>h w fun b o hb=>hw b o (hF b o hb)
theorem PureV.up {P:Program} {F:Base} {f:FuncId} {args:Array Value} {v:Value} {H:Hp} (h:PureV P F f args v):PureV P (rdObj F H) f args v:=
  h.mono fun _ _ hb=>by simp [rdObj,hb]
theorem CallG.of_pureH {P:Program} {X:List Nat} {F:Base} {w0:World} {f:FuncId} {args:Array Value} {v:Value} {H:Hp} (h:PureV P (rdObj F H) f args v) {K:Value→Hp→Prop} (hK:K v H) :
    CallG P X F w0 f args H K:=fun w hs=>(h w fun _ _ hb=>hs.rd hb).mono fun _ _ ⟨he,hb⟩=>⟨v,H,he,hs.below hb,hK⟩
inductive Kind | q | g | e | p
  deriving DecidableEq
section
variable (P:Program) (X:List Nat) (F:Base) (w0:World)
def opK (o:Oper) (a:Act) (next:Act→Hp→Prop):Next→Hp→Prop
  | .value v,H=>next (a.put o.dst v) H
  | .skip,H=>next (a.put o.dst undef) H
  | .enter f args,H=>CallG P X F w0 f args H (fun v H'=>next (a.put o.dst v) H')
  | _,_=>False
def qK (v:Value):Next→Prop
  | .value u=>u=v
  | .skip=>v=undef
  | .enter f args=>PureV P F f args v
  | _=>False
def Qt (o:Oper) (a:Act) (H:Hp) (v:Value):Prop:=semq P F H (execOp a.eval o) (qK P (rdObj F H) v)
def Shr (next:Act→Hp→Prop) (a:Act) (H:Hp):Prop:=∃ Hc,(∀ e∈Hc,e∈H)∧next a Hc
def kop (k:Kind) (o:Oper) (next:Act→Hp→Prop) (a:Act) (H:Hp):Prop:=
  match k with
  | .q=>∃ v,Qt P F o a H v∧next (a.put o.dst v) H
  | .p=>∃ v,(∀ H',Qt P F o a H' v)∧next (a.put o.dst v) H
  | .g=>sem P F (execOp a.eval o) H (opK P X F w0 o a fun a' H'=>Hext F H H'∧next a' H')
  | .e=>sem P F (execOp a.eval o) H (opK P X F w0 o a (Shr next))
def rvc (ops:Array Oper) (K:Act→Hp→Prop):List (Oper×Kind)→Act→Hp→Prop
  | [],a,H=>K a H
  | (o,k)::rest,a,H=>if Region.wanted o (yielded ops a.tmps) then kop P X F w0 k o (rvc ops K rest) a H else rvc ops K rest (a.put o.dst undef) H
end
section
variable {P:Program} {X:List Nat} {F:Base} {w0:World} {ops:Array Oper} {md:Region.Mode}
theorem CallG.mono {f:FuncId} {args:Array Value} {H:Hp} {K K':Value→Hp→Prop} (h:CallG P X F w0 f args H K) (hk:∀ v H',K v H'→K' v H'):CallG P X F w0 f args H K':=
  fun w hs=>(h w hs).mono fun _ _ ⟨v,H',he,hs',hK⟩=>⟨v,H',he,hs',hk _ _ hK⟩
theorem opK_mono {o:Oper} {a:Act} {K K':Act→Hp→Prop} (h:∀ a H,K a H→K' a H):∀ n H,opK P X F w0 o a K n H→opK P X F w0 o a K' n H:=fun n H hn=>by
  cases n <;> first | exact h _ _ hn | exact CallG.mono hn (fun v H'=>h _ _) | exact hn
theorem opK_of_qK {o:Oper} {a:Act} {K:Act→Hp→Prop} {H:Hp} {v:Value} (hK:K (a.put o.dst v) H):∀ n H',H'=H∧qK P (rdObj F H) v n→opK P X F w0 o a K n H':=fun n H' ⟨hH,hn⟩=>by
  subst hH
  cases n <;> simp only [qK] at hn <;> simp only [opK]
  case value u=>rw [hn];exact hK
  case skip=>rw [← hn];exact hK
  case enter f args=>exact CallG.of_pureH hn hK
theorem Shr.of {K:Act→Hp→Prop} {a:Act} {H:Hp} (h:K a H):Shr K a H:=⟨H,fun _ h=>h,h⟩
theorem Shr.mono {K K':Act→Hp→Prop} (hk:∀ a H,K a H→K' a H) {a:Act} {H:Hp} (h:Shr K a H):Shr K' a H:=by
  obtain ⟨Hc,h1,h2⟩:=h;exact ⟨Hc,h1,hk _ _ h2⟩
theorem kop_sem {k:Kind} {o:Oper} {K:Act→Hp→Prop} {a:Act} {H:Hp} (h:kop P X F w0 k o K a H):sem P F (execOp a.eval o) H (opK P X F w0 o a (Shr K)):=by
  cases k with
  | q=>obtain ⟨v,h1,h2⟩:=h;exact sem_mono _ _ _ _ (opK_of_qK (Shr.of h2)) (sem_of_semq _ _ h1)
  | p=>obtain ⟨v,h1,h2⟩:=h;exact sem_mono _ _ _ _ (opK_of_qK (Shr.of h2)) (sem_of_semq _ _ (h1 H))
  | g=>exact sem_mono _ _ _ _ (opK_mono fun _ _ h=>Shr.of h.2) h
  | e=>exact h
theorem kop_mono {k:Kind} {o:Oper} {K K':Act→Hp→Prop} (hk:∀ a H,K a H→K' a H) {a:Act} {H:Hp} (h:kop P X F w0 k o K a H):kop P X F w0 k o K' a H:=by
  cases k with
  | q=>obtain ⟨v,h1,h2⟩:=h;exact ⟨v,h1,hk _ _ h2⟩
  | p=>obtain ⟨v,h1,h2⟩:=h;exact ⟨v,h1,hk _ _ h2⟩
  | g=>exact sem_mono _ _ _ _ (opK_mono fun _ _ h=>⟨h.1,hk _ _ h.2⟩) h
  | e=>exact sem_mono _ _ _ _ (opK_mono fun _ _=>Shr.mono hk) h
theorem Oper.wp_of_sem {o:Oper} {a:Act} {H:Hp} {w:World} {K:Act→Hp→Prop} {K':Act→World→Prop} {Q:Exit→Act→World→Prop}
    (hK:∀ a H w,Sat X F w0 H w→K a H→K' a w) (h:sem P F (execOp a.eval o) H (opK P X F w0 o a (Shr K))) (hs:Sat X F w0 H w):o.wp P a w K' Q:=by
  replace hK:∀ a H w,Sat X F w0 H w→Shr K a H→K' a w:=fun a H w hs ⟨Hc,h1,h2⟩=>hK a Hc w (hs.less h1) h2
  obtain ⟨n,w',H',hr,hs',hn⟩:=sem_sound _ _ _ _ h hs
  unfold Oper.wp
  rw [hr]
  cases n <;> simp only [opK] at hn <;> simp only [Oper.upon]
  case value v=>exact hK _ _ _ hs' hn
  case skip=>exact hK _ _ _ hs' hn
  case enter f args=>exact (hn w' hs').mono fun e w'' ⟨v,H'',he,hs'',hk⟩=>by subst he;exact hK _ _ _ hs'' hk
theorem wpList_of_rvc {K:Act→Hp→Prop} {Q:Exit→Act→World→Prop} (hQ:∀ a H w,Sat X F w0 H w→K a H→Q .normal a w):∀ (l:List (Oper×Kind)) (a:Act) (H:Hp) (w:World),
    rvc P X F w0 ops K l a H→Sat X F w0 H w→wpList P ops Q (l.map (·.1)) a w
  | [],a,H,w,h,hs=>hQ a H w hs h
  | (o,k)::rest,a,H,w,h,hs=>by
    simp only [rvc] at h
    simp only [List.map_cons,wpList]
    split
    · rename_i hw
      rw [if_pos hw] at h
      exact .inl (Oper.wp_of_sem (fun a H w hs h=>wpList_of_rvc hQ rest a H w h hs) (kop_sem h) hs)
    · rename_i hw
      rw [if_neg hw] at h
      exact wpList_of_rvc hQ rest _ H w h hs
def cOp (P:Program) (X:List Nat) (F:Base) (w0:World) (ops:Array Oper) (kd:Nat→Kind) (i:Nat) (K:Act→Hp→Prop) (a:Act) (H:Hp):Prop:=
  match ops[i]? with
  | none=>K a H
  | some o=>if Region.wanted o (yielded ops a.tmps) then kop P X F w0 (kd i) o K a H else K (a.put o.dst undef) H
theorem cOp_mono {kd:Nat→Kind} {i:Nat} {K K':Act→Hp→Prop} (hk:∀ a H,K a H→K' a H) {a:Act} {H:Hp} (h:cOp P X F w0 ops kd i K a H):cOp P X F w0 ops kd i K' a H:=by
  unfold cOp at *
  split
  · exact hk _ _ (by simpa [*] using h)
  · rename_i o ho
    simp only [ho] at h
    split
    · rename_i hw;rw [if_pos hw] at h;exact kop_mono hk h
    · rename_i hw;rw [if_neg hw] at h;exact hk _ _ h
def anyC (P:Program) (X:List Nat) (F:Base) (w0:World) (md:Region.Mode) (ops:Array Oper) (kd:Nat→Kind) (K:Act→Hp→Prop):Nat→Array Bool→Act→Hp→Prop
  | 0,listed,a,H=>Region.ready md ops listed=[]∧K a H
  | fuel+1,listed,a,H=>(Region.ready md ops listed=[]→K a H)∧∀ i∈Region.ready md ops listed,cOp P X F w0 ops kd i (anyC P X F w0 md ops kd K fuel (listed.setIfInBounds i true)) a H
theorem wpAny_of_anyC {kd:Nat→Kind} {K:Act→Hp→Prop} {Q:Exit→Act→World→Prop} (hQ:∀ a H w,Sat X F w0 H w→K a H→Q .normal a w):∀ (fuel:Nat) (listed:Array Bool) (a:Act) (H:Hp) (w:World),
    anyC P X F w0 md ops kd K fuel listed a H→Sat X F w0 H w→wpAny P md ops Q fuel listed a w
  | 0,_,_,_,_,h,hs=>⟨h.1,hQ _ _ _ hs h.2⟩
  | fuel+1,listed,a,H,w,h,hs=>⟨fun h0=>hQ _ _ _ hs (h.1 h0),fun i hi=>by
      have:=h.2 i hi
      unfold cOp at this
      unfold wpOp
      split
      · rename_i ho;simp only [ho] at this;exact wpAny_of_anyC hQ fuel _ _ _ _ this hs
      · rename_i o ho
        simp only [ho] at this
        split
        · rename_i hw;rw [if_pos hw] at this;exact .inl (Oper.wp_of_sem (fun a H w hs h=>wpAny_of_anyC hQ fuel _ a H w h hs) (kop_sem this) hs)
        · rename_i hw;rw [if_neg hw] at this;exact wpAny_of_anyC hQ fuel _ _ _ _ this hs⟩
def QtK (P:Program) (F:Base) (k:Kind) (o:Oper) (a:Act) (H:Hp) (v:Value):Prop:=match k with
  | .p=>∀ H',Qt P F o a H' v
  | _=>Qt P F o a H v
def YieldsC (P:Program) (F:Base) (ops:Array Oper) (k:Kind) (o:Oper) (v:Value) (a:Act) (H:Hp):Prop:=
  (Region.wanted o (yielded ops a.tmps)=true∧QtK P F k o a H v)∨(Region.wanted o (yielded ops a.tmps)=false∧v=undef)
theorem YieldsC.cOp {kd:Nat→Kind} {i:Nat} {o:Oper} {v:Value} {a:Act} {H:Hp} (hk:kd i=.q∨kd i=.p) (hi:ops[i]?=some o) (hy:YieldsC P F ops (kd i) o v a H) {K:Act→Hp→Prop} (h:K (a.put o.dst v) H):cOp P X F w0 ops kd i K a H:=by
  unfold Eng.cOp
  simp only [hi]
  rcases hy with ⟨hw,hv⟩ | ⟨hw,rfl⟩
  · simp only [hw,if_true]
    rcases hk with hk | hk <;> (rw [hk] at hv ⊢;exact ⟨v,hv,h⟩)
  · simp only [hw,Bool.false_eq_true,if_false];exact h
theorem YieldsC.keep {k:Kind} {oi oj:Oper} {v u:Value} {a:Act} {H H':Hp} (hsi:∀ cs b,oi.op≠.select cs b) (h3:∀ d,oj.dst=some d→d∉oi.looksAt ops)
    (hy:YieldsC P F ops k oi v a H) (hx:k=.p∨Hext F H H'):YieldsC P F ops k oi v (a.put oj.dst u) H':=by
  unfold YieldsC at *
  have key:∀ G G',Hext F G G'→Qt P F oi a G v→Qt P F oi (a.put oj.dst u) G' v:=fun G G' hx hv=>by
    unfold Qt at *
    rw [execOp_put oi hsi a oj.dst u h3]
    refine semq_mono _ _ _ (fun n hn=>?_) (semq_ext hx _ _ hv)
    cases n <;> first | exact hn | exact PureV.mono hn hx
  rw [wanted_put oi a oj.dst u h3]
  rcases hy with ⟨hw,hv⟩ | h
  · refine .inl ⟨hw,?_⟩
    cases k with
    | p=>exact fun G=>key G G (Hext.refl _ _) (hv G)
    | q => rcases hx with hx | hx;· cases hx
           exact key _ _ hx hv
    | g => rcases hx with hx | hx;· cases hx
           exact key _ _ hx hv
    | e => rcases hx with hx | hx;· cases hx
           exact key _ _ hx hv
  · exact .inr h
theorem cOp_put {kd:Nat→Kind} {i j:Nat} {oi oj:Oper} {v:Value} (hj:ops[j]?=some oj) (hkj:kd i=.p∨kd j≠.e) (hap:oi.apart ops oj=true)
    (hsi:∀ cs b,oi.op≠.select cs b) (hsj:∀ cs b,oj.op≠.select cs b) {K:Act→Hp→Prop} {a:Act} {H:Hp}
    (hy:YieldsC P F ops (kd i) oi v a H) (h:cOp P X F w0 ops kd j K (a.put oi.dst v) H) :
    cOp P X F w0 ops kd j (fun a' H'=>YieldsC P F ops (kd i) oi v a' H'∧K (a'.put oi.dst v) H') a H:=by
  obtain ⟨h1,h2,h3⟩:=Oper.apart_spec hap
  unfold cOp at *
  simp only [hj] at *
  rw [wanted_put oj a oi.dst v h1] at h
  split
  · rename_i hw
    simp only [hw,if_true] at h
    cases hk:kd j with
    | e=>
      have hp:kd i=.p:=hkj.resolve_right (fun h=>h hk)
      simp only [hk,kop] at h ⊢
      rw [execOp_put oj hsj a oi.dst v h1] at h
      refine sem_mono _ _ _ _ (fun n H' hn=>?_) h
      cases n <;> simp only [opK] at hn ⊢
      case value u=>obtain ⟨Hc,hc,hn⟩:=hn;exact ⟨Hc,hc,hy.keep hsi h3 (.inl hp),by rw [← Act.put_comm a v u h2];exact hn⟩
      case skip=>obtain ⟨Hc,hc,hn⟩:=hn;exact ⟨Hc,hc,hy.keep hsi h3 (.inl hp),by rw [← Act.put_comm a v undef h2];exact hn⟩
      case enter f args=>exact hn.mono fun u H'' ⟨Hc,hc,hn⟩=>⟨Hc,hc,hy.keep hsi h3 (.inl hp),by rw [← Act.put_comm a v u h2];exact hn⟩
    | q=>
      simp only [hk,kop] at h ⊢
      obtain ⟨u,hu,hn⟩:=h
      refine ⟨u,?_,hy.keep hsi h3 (.inr (Hext.refl _ _)),by rw [← Act.put_comm a v u h2];exact hn⟩
      unfold Qt at *
      rwa [execOp_put oj hsj a oi.dst v h1] at hu
    | p=>
      simp only [hk,kop] at h ⊢
      obtain ⟨u,hu,hn⟩:=h
      refine ⟨u,fun G=>?_,hy.keep hsi h3 (.inr (Hext.refl _ _)),by rw [← Act.put_comm a v u h2];exact hn⟩
      have hu:=hu G
      unfold Qt at *
      rwa [execOp_put oj hsj a oi.dst v h1] at hu
    | g=>
      simp only [hk,kop] at h ⊢
      rw [execOp_put oj hsj a oi.dst v h1] at h
      refine sem_mono _ _ _ _ (fun n H' hn=>?_) h
      cases n <;> simp only [opK] at hn ⊢
      case value u=>exact ⟨hn.1,hy.keep hsi h3 (.inr hn.1),by rw [← Act.put_comm a v u h2];exact hn.2⟩
      case skip=>exact ⟨hn.1,hy.keep hsi h3 (.inr hn.1),by rw [← Act.put_comm a v undef h2];exact hn.2⟩
      case enter f args=>exact hn.mono fun u H'' hn=>⟨hn.1,hy.keep hsi h3 (.inr hn.1),by rw [← Act.put_comm a v u h2];exact hn.2⟩
  · rename_i hw
    simp only [hw] at h
    exact ⟨hy.keep hsi h3 (.inr (Hext.refl _ _)),by rw [← Act.put_comm a v undef h2];exact h⟩
def Closed (md:Region.Mode) (ops:Array Oper) (listed:Array Bool):Prop:=
  ∀ j oj,ops[j]?=some oj→listed.getD j false=true→∀ e∈oj.after,Region.binds md e=true→listed.getD e.on false=true
def ancE (md:Region.Mode) (acc:Array Nat) (s:Nat) (e:Edge):Nat:=if Region.binds md e then s ||| 2 ^ e.on ||| acc.getD e.on 0 else s
def ancL (md:Region.Mode):List Oper→Array Nat→Array Nat
  | [],acc=>acc
  | o::r,acc=>ancL md r (acc.push (o.after.toList.foldl (ancE md acc) 0))
def reach (md:Region.Mode) (ops:Array Oper) (i j:Nat):Bool:=((ancL md ops.toList #[]).getD j 0).testBit i
def GoodM (md:Region.Mode) (ops:Array Oper) (o:Oper) (m:Nat):Prop:=∀ listed,Closed md ops listed→(∀ e∈o.after,Region.binds md e=true→listed.getD e.on false=true)→∀ i,m.testBit i=true→listed.getD i false=true
theorem ancE_good {acc:Array Nat} {listed:Array Bool} (hcl:Closed md ops listed) (ha:∀ (j m:Nat) (oj:Oper),acc[j]?=some m→ops[j]?=some oj→GoodM md ops oj m) (hs:acc.size≤ops.size):∀ (l:List Edge) (s:Nat),
    (∀ e∈l,Region.binds md e=true→listed.getD e.on false=true)→(∀ i,s.testBit i=true→listed.getD i false=true)→∀ i,(l.foldl (ancE md acc) s).testBit i=true→listed.getD i false=true
  | [],s,_,h2,i,h=>h2 i h
  | e :: l,s,h1,h2,i,h=>by
    rw [List.foldl_cons] at h
    refine ancE_good hcl ha hs l _ (fun e' he'=>h1 e' (List.mem_cons_of_mem _ he')) (fun k hk=>?_) i h
    unfold ancE at hk
    split at hk
    · rename_i hb
      have hl:=h1 e List.mem_cons_self hb
      rw [Nat.testBit_or,Nat.testBit_or,Bool.or_eq_true,Bool.or_eq_true] at hk
      rcases hk with (hk | hk) | hk
      · exact h2 k hk
      · rw [Nat.testBit_two_pow] at hk
        have:e.on=k:=by simpa using hk
        rw [← this];exact hl
      · cases ho:acc[e.on]? with
        | none=>rw [Array.getD_eq_getD_getElem?,ho] at hk;simp at hk
        | some m=>
          rw [Array.getD_eq_getD_getElem?,ho] at hk
          have hlt:e.on < ops.size:=Nat.lt_of_lt_of_le (Array.getElem?_eq_some_iff.1 ho).1 hs
          exact ha e.on m _ ho (Array.getElem?_eq_getElem hlt) listed hcl (hcl e.on _ (Array.getElem?_eq_getElem hlt) hl) k hk
    · exact h2 k hk
theorem ancL_good:∀ (l:List Oper) (acc:Array Nat),(∀ j,l[j]?=ops[acc.size+j]?)→acc.size+l.length=ops.size→(∀ (j m:Nat) (oj:Oper),acc[j]?=some m→ops[j]?=some oj→GoodM md ops oj m) →
    ∀ (j m:Nat) (oj:Oper),(ancL md l acc)[j]?=some m→ops[j]?=some oj→GoodM md ops oj m
  | [],acc,_,_,ha=>ha
  | o :: l,acc,hl,hn,ha=>by
    rw [ancL]
    refine ancL_good l _ (fun j=>?_) ?_ (fun j m oj hj hoj=>?_)
    · have:=hl (j+1)
      rw [List.getElem?_cons_succ] at this
      rw [this,Array.size_push];congr 1;omega
    · rw [Array.size_push];simp only [List.length_cons] at hn;omega
    · rw [Array.getElem?_push] at hj
      split at hj
      · rename_i hjs
        subst hjs
        have h0:=hl 0
        rw [Nat.add_zero,List.getElem?_cons_zero,hoj] at h0
        obtain rfl:=Option.some.inj h0
        obtain rfl:=Option.some.inj hj
        intro listed hcl hall i hi
        exact ancE_good hcl ha (by simp only [List.length_cons] at hn;omega) _ 0 (fun e he=>hall e (Array.mem_toList_iff.1 he)) (fun i h=>by simp at h) i hi
      · exact ha j m oj hj hoj
theorem reach_no {listed:Array Bool} {i j:Nat} {oj:Oper} (hc:Closed md ops listed) (hi:listed.getD i false=false) (hj:ops[j]?=some oj)
    (hall:∀ e∈oj.after,Region.binds md e=true→listed.getD e.on false=true):reach md ops i j=false:=by
  rw [Bool.eq_false_iff]
  intro h
  unfold reach at h
  cases hm:(ancL md ops.toList #[])[j]? with
  | none=>rw [Array.getD_eq_getD_getElem?,hm] at h;simp at h
  | some m=>
    rw [Array.getD_eq_getD_getElem?,hm] at h
    have:=ancL_good (md:=md) (ops:=ops) ops.toList #[] (fun k=>by simp) (by simp) (fun j m oj hj=>by simp at hj) j m oj hm hj listed hc hall i h
    rw [hi] at this;cases this
theorem Closed.set {listed:Array Bool} (hc:Closed md ops listed) {k:Nat} (hk:k∈Region.ready md ops listed):Closed md ops (listed.setIfInBounds k true):=by
  intro j oj hj hl e he hb
  by_cases hjk:k=j
  · subst hjk
    obtain ⟨_,o,ho,hall⟩:=mem_ready.1 hk
    rw [hj] at ho
    obtain rfl:=Option.some.inj ho
    exact getD_set_true (hall e he hb)
  · rw [getD_set_ne false hjk] at hl
    exact getD_set_true (hc j oj hj hl e he hb)
theorem Closed.none (n:Nat):Closed md ops (Array.replicate n false):=by
  intro j oj _ hl
  exfalso
  rw [Array.getD_eq_getD_getElem?] at hl
  cases h:(Array.replicate n false)[j]? with
  | none=>rw [h] at hl;cases hl
  | some b=>
    rw [h] at hl
    have:=Array.mem_of_getElem? h
    rw [Array.mem_replicate] at this
    rw [this.2] at hl;cases hl
theorem unlisted_of_ready {listed:Array Bool} {i:Nat} (hr:i∈Region.ready md ops listed):listed.getD i false=false:=by
  have h0:=(mem_ready.1 hr).1
  rcases Nat.lt_or_ge i listed.size with h' | h'
  · simp [h'] at h0 ⊢;exact h0
  · simp [Array.getElem?_eq_none h']
theorem anyC_first {kd:Nat→Kind} {K:Act→Hp→Prop} {i:Nat} {oi:Oper} {v:Value} (hki:kd i=.q∨kd i=.p) (hi:ops[i]?=some oi) (hsel:∀ (j:Nat) (o:Oper) cs b,ops[j]?=some o→o.op≠.select cs b) :
    ∀ (fuel:Nat) (listed:Array Bool) (a:Act) (H:Hp),
      (∀ j oj,ops[j]?=some oj→j≠i→listed.getD j true=false→reach md ops i j=false→oi.apart ops oj=true∧(kd i=.p∨kd j≠.e)) →
      Closed md ops listed→i∈Region.ready md ops listed→YieldsC P F ops (kd i) oi v a H →
      anyC P X F w0 md ops kd K fuel (listed.setIfInBounds i true) (a.put oi.dst v) H→anyC P X F w0 md ops kd K (fuel+1) listed a H:=by
  intro fuel
  induction fuel with
  | zero=>
    intro listed a H _ _ hr hy HH
    refine ⟨fun h=>(by rw [h] at hr;cases hr),fun j hj=>?_⟩
    by_cases hji:j=i
    · subst hji;exact hy.cOp hki hi HH
    · have:=ready_mono hj hji
      rw [HH.1] at this
      cases this
  | succ fuel ih=>
    intro listed a H hfree hcl hr hy HH
    refine ⟨fun h=>(by rw [h] at hr;cases hr),fun j hj=>?_⟩
    by_cases hji:j=i
    · subst hji;exact hy.cOp hki hi HH
    · have h1:=HH.2 j (ready_mono hj hji)
      obtain ⟨hjun,oj,hoj,hall⟩:=mem_ready.1 hj
      have hnot:reach md ops i j=false:=reach_no hcl (unlisted_of_ready hr) hoj hall
      obtain ⟨hap,hkj⟩:=hfree j oj hoj hji hjun hnot
      have h2:=cOp_put hoj hkj hap (fun cs b=>hsel i oi cs b hi) (fun cs b=>hsel j oj cs b hoj) hy h1
      have hfree':∀ k ok,ops[k]?=some ok→k≠i→(listed.setIfInBounds j true).getD k true=false →
          reach md ops i k=false→oi.apart ops ok=true∧(kd i=.p∨kd k≠.e):=fun k ok hk hki hun hno=>by
        refine hfree k ok hk hki ?_ hno
        by_cases hjk:j=k
        · subst hjk;exact hjun
        · rw [getD_set_ne true hjk] at hun;exact hun
      refine cOp_mono (fun a' H' h3=>ih (listed.setIfInBounds j true) a' H' hfree' (hcl.set hj) (ready_mono hr (Ne.symm hji)) h3.1 ?_) h2
      rw [Array.setIfInBounds_comm _ _ hji]
      exact h3.2
def freeK (md:Region.Mode) (ops:Array Oper) (kd:Nat→Kind) (listed:Array Bool) (i:Nat):Bool:=
  match ops[i]? with
  | none=>false
  | some oi=>(List.range ops.size).all fun j=>j==i||listed.getD j true||match ops[j]? with
      | some oj=>(oi.apart ops oj&&(kd i==.p||kd j != .e))||reach md ops i j
      | none=>true
theorem freeK_spec {kd:Nat→Kind} {i:Nat} {oi:Oper} {listed:Array Bool} (hi:ops[i]?=some oi) (h:freeK md ops kd listed i=true) (j:Nat) (oj:Oper)
    (hj:ops[j]?=some oj) (hne:j≠i) (hun:listed.getD j true=false) (hno:reach md ops i j=false) :
    oi.apart ops oj=true∧(kd i=.p∨kd j≠.e):=by
  simp only [freeK,hi,List.all_eq_true,List.mem_range] at h
  have h1:=h j (Array.getElem?_eq_some_iff.1 hj).1
  simp only [hj,Bool.or_eq_true,beq_iff_eq,hne,false_or,hun,Bool.false_eq_true,Bool.and_eq_true,bne_iff_ne,hno,or_false] at h1
  exact h1
def lexK (md:Region.Mode) (ops:Array Oper) (kd:Nat→Kind):Nat→Nat→Array Bool→Bool
  | 0,_,listed=>(Region.ready md ops listed).isEmpty
  | fuel+1,k,listed=>((Region.ready md ops listed==[k])||((kd k==.q||kd k==.p)&&(Region.ready md ops listed).contains k&&freeK md ops kd listed k))&&lexK md ops kd fuel (k+1) (listed.setIfInBounds k true)
theorem anyC_lex {kd:Nat→Kind} {K:Act→Hp→Prop} (hs:Region.noSelect ops=true):∀ (l:List (Oper×Kind)) (k:Nat) (listed:Array Bool) (a:Act) (H:Hp),(∀ j,(l.map (·.1))[j]?=ops[k+j]?)→(∀ j x,l[j]?=some x→kd (k+j)=x.2) →
    Closed md ops listed→lexK md ops kd l.length k listed=true→rvc P X F w0 ops K l a H→anyC P X F w0 md ops kd K l.length listed a H
  | [],_,_,_,_,_,_,_,hB,h=>⟨by simpa [lexK] using hB,h⟩
  | (o, kk) :: l,k,listed,a,H,hl,hkd,hcl,hB,h=>by
    have h0:ops[k]?=some o:=by simpa using (hl 0).symm
    have hk0:kd k=kk:=by simpa using hkd 0 (o,kk) rfl
    simp only [List.length_cons,lexK,Bool.and_eq_true,Bool.or_eq_true] at hB
    obtain ⟨hr,hB'⟩:=hB
    have hl':∀ j,(l.map (·.1))[j]?=ops[(k+1)+j]?:=fun j=>by have:=hl (j+1);simpa [Nat.add_assoc,Nat.add_comm 1 j] using this
    have hkd':∀ j x,l[j]?=some x→kd ((k+1)+j)=x.2:=fun j x hx=>by have:=hkd (j+1) x (by simpa using hx);simpa [Nat.add_assoc,Nat.add_comm 1 j] using this
    have hkr:k∈Region.ready md ops listed:=by
      rcases hr with hr | ⟨⟨_,hc⟩,_⟩
      · have hr':Region.ready md ops listed=[k]:=by simpa using hr
        rw [hr'];exact List.mem_singleton.2 rfl
      · simpa using hc
    have hcl':=hcl.set hkr
    rcases hr with hr | ⟨⟨hq,hc⟩,hf⟩
    · have hr':Region.ready md ops listed=[k]:=by simpa using hr
      refine ⟨fun h=>(by rw [hr'] at h;cases h),fun i hi=>?_⟩
      rw [hr'] at hi
      obtain rfl:i=k:=by simpa using hi
      unfold cOp
      simp only [h0,hk0]
      simp only [rvc] at h
      split
      · rename_i hw;rw [if_pos hw] at h
        exact kop_mono (fun a' H' h'=>anyC_lex hs l (i+1) _ a' H' hl' hkd' hcl' hB' h') h
      · rename_i hw;rw [if_neg hw] at h
        exact anyC_lex hs l (i+1) _ _ _ hl' hkd' hcl' hB' h
    · have hq':kd k=.q∨kd k=.p:=by simpa using hq
      simp only [rvc] at h
      have hy:∃ v,YieldsC P F ops (kd k) o v a H∧rvc P X F w0 ops K l (a.put o.dst v) H:=by
        by_cases hw:Region.wanted o (yielded ops a.tmps)=true
        · rw [if_pos hw,← hk0] at h
          rcases hq' with hq' | hq' <;>
          · rw [hq'] at h
            obtain ⟨v,h1,h2⟩:=h
            exact ⟨v,.inl ⟨hw,by rw [hq'];exact h1⟩,h2⟩
        · rw [if_neg hw] at h
          exact ⟨undef,.inr ⟨by simpa using hw,rfl⟩,h⟩
      obtain ⟨v,hy,hK⟩:=hy
      exact anyC_first hq' h0 (Region.noSelect_spec hs) l.length listed a H (freeK_spec h0 hf) hcl (by simpa using hc) hy
        (anyC_lex hs l (k+1) _ _ _ hl' hkd' hcl' hB' hK)
def rowQ (md:Region.Mode) (ops:Array Oper) (o:Oper) (i:Nat) (p:Bool):List (Oper×Kind)→Nat→Bool
  | [],_=>true
  | x::r,j=>((o.apart ops x.1&&(p||x.2 != .e))||reach md ops i j)&&rowQ md ops o i p r (j+1)
def pairsQ (md:Region.Mode) (ops:Array Oper):List (Oper×Kind)→Nat→Bool
  | [],_=>true
  | x::r,i=>(x.2==.q||x.2==.p)&&(x.1.after.toList.all fun e=>!Region.binds md e||decide (e.on < i))&&rowQ md ops x.1 i (x.2==.p) r (i+1)&&pairsQ md ops r (i+1)
theorem rowQ_spec {md:Region.Mode} {ops:Array Oper} {o:Oper} {i:Nat} {p:Bool}:∀ {l:List (Oper×Kind)} {j0:Nat},rowQ md ops o i p l j0=true→∀ (m:Nat) (x:Oper×Kind),l[m]?=some x→((o.apart ops x.1&&(p||x.2 != .e))||reach md ops i (j0+m))=true
  | [],_,_,m,x,h=>by simp at h
  | y :: l,j0,h,m,x,hx=>by
    rw [rowQ,Bool.and_eq_true] at h
    cases m with
    | zero=>simp only [List.getElem?_cons_zero,Option.some.injEq] at hx;subst hx;exact h.1
    | succ m=>
      rw [List.getElem?_cons_succ] at hx
      have:=rowQ_spec h.2 m x hx
      rwa [show j0+1+m=j0+(m+1) by omega] at this
theorem lexK_pairs {md:Region.Mode} {ops:Array Oper} {kd:Nat→Kind}:∀ (l:List (Oper×Kind)) (k:Nat) (listed:Array Bool),(∀ j,(l.map (·.1))[j]?=ops[k+j]?)→(∀ j x,l[j]?=some x→kd (k+j)=x.2)→k+l.length=ops.size →
    listed.size=ops.size→(∀ j,j < k→listed[j]?=some true)→(∀ j,k≤j→j < ops.size→listed[j]?=some false)→pairsQ md ops l k=true→lexK md ops kd l.length k listed=true
  | [],k,listed,hl,hkd,hn,hs,h1,h2,hp=>by
    show (Region.ready md ops listed).isEmpty=true
    rw [List.isEmpty_iff]
    apply List.eq_nil_iff_forall_not_mem.2
    intro j hj
    obtain ⟨hu,o,ho,_⟩:=mem_ready.1 hj
    have hlt:=(Array.getElem?_eq_some_iff.1 ho).1
    have:=h1 j (by simp at hn;omega)
    rw [Array.getD_eq_getD_getElem?,this] at hu
    cases hu
  | (o, kk)::l,k,listed,hl,hkd,hn,hs,h1,h2,hp=>by
    simp only [List.length_cons] at hn
    rw [pairsQ,Bool.and_eq_true,Bool.and_eq_true,Bool.and_eq_true] at hp
    obtain ⟨⟨⟨hq,ha⟩,hr⟩,hp⟩:=hp
    have h0:ops[k]?=some o:=by simpa using (hl 0).symm
    have hk0:kd k=kk:=by simpa using hkd 0 (o,kk) rfl
    have hl':∀ j,(l.map (·.1))[j]?=ops[(k+1)+j]?:=fun j=>by have:=hl (j+1);simpa [Nat.add_assoc,Nat.add_comm 1 j] using this
    have hkd':∀ j x,l[j]?=some x→kd ((k+1)+j)=x.2:=fun j x hx=>by have:=hkd (j+1) x (by simpa using hx);simpa [Nat.add_assoc,Nat.add_comm 1 j] using this
    have hmem:k∈Region.ready md ops listed:=by
      refine mem_ready.2 ⟨?_,o,h0,fun e he hb=>?_⟩
      · rw [Array.getD_eq_getD_getElem?,h2 k (Nat.le_refl _) (by omega)];rfl
      · rw [List.all_eq_true] at ha
        have:=ha e (by simpa using he)
        simp only [Bool.or_eq_true,Bool.not_eq_true',hb,Bool.true_eq_false,false_or,decide_eq_true_eq] at this
        rw [Array.getD_eq_getD_getElem?,h1 _ this];rfl
    have hfree:freeK md ops kd listed k=true:=by
      unfold freeK
      rw [h0]
      simp only [List.all_eq_true,List.mem_range]
      intro j hj
      rcases Nat.lt_trichotomy j k with h | h | h
      · rw [Array.getD_eq_getD_getElem?,h1 j h];simp
      · subst h;simp
      · obtain ⟨m,rfl⟩:∃ m,j=k+1+m:=⟨j - (k+1),by omega⟩
        cases hx:l[m]? with
        | none=>
          have:=List.getElem?_eq_none_iff.1 hx
          omega
        | some x=>
          have hj2:=hl' m
          rw [List.getElem?_map,hx] at hj2
          simp only [Option.map_some] at hj2
          have hr2:=rowQ_spec hr m x hx
          have hk2:=hkd' m x hx
          rw [← hj2]
          simp only [hk0,hk2]
          rw [hr2];simp
    rw [List.length_cons,lexK,hk0,hq,hfree,List.contains_iff_mem.2 hmem]
    simp only [Bool.and_self,Bool.or_true,Bool.true_and]
    refine lexK_pairs l (k+1) _ hl' hkd' (by omega) (by rw [Array.size_setIfInBounds];exact hs) (fun j hj=>?_) (fun j hj hj2=>?_) hp
    · rw [Array.getElem?_setIfInBounds]
      split
      · rename_i e;subst e;rw [if_pos (by omega)]
      · exact h1 j (by omega)
    · rw [Array.getElem?_setIfInBounds,if_neg (by omega)]
      exact h2 j (by omega) hj2
def kindAt (l:List (Oper×Kind)) (i:Nat):Kind:=match l[i]? with
  | some x=>x.2
  | none=>.e
def lexOk (l:List (Oper×Kind)):Bool:=
  Region.noSelect (l.map (·.1)).toArray&&(pairsQ .any (l.map (·.1)).toArray l 0||lexK .any (l.map (·.1)).toArray (kindAt l) l.length 0 (Array.replicate l.length false))
theorem lexOk_spec {l:List (Oper×Kind)} (h:lexOk l=true):Region.noSelect (l.map (·.1)).toArray=true∧lexK .any (l.map (·.1)).toArray (kindAt l) l.length 0 (Array.replicate l.length false)=true:=by
  rw [lexOk,Bool.and_eq_true,Bool.or_eq_true] at h
  refine ⟨h.1,?_⟩
  rcases h.2 with h2 | h2
  · refine lexK_pairs l 0 _ (by simp) (fun j x hx=>by simp [kindAt,hx]) (by simp) (by simp) (fun j hj=>by omega) (fun j _ hj=>?_) h2
    simp at hj
    rw [Array.getElem?_replicate,if_pos hj]
  · exact h2
theorem wp_region_rvc {K:Act→Hp→Prop} {Q:Exit→Act→World→Prop} (hQ:∀ a H w,Sat X F w0 H w→K a H→Q .normal a w) {id:Nat} {draw:Bool} {l:List (Oper×Kind)} {a:Act} {H:Hp} {w:World}
    (hm:P.follows .mixedOrders=true) (hB:draw=true→lexOk l=true) (h:rvc P X F w0 (l.map (·.1)).toArray K l a H) (hs:Sat X F w0 H w) :
    (Code.region id (l.map (·.1)).toArray draw).wp P Q a w:=by
  cases draw with
  | false=>exact wp_region_lit (wpList_of_rvc hQ l a H w h hs)
  | true=>
    have hB:=hB rfl
    have hB:=lexOk_spec hB
    refine wp_region_any hm ?_
    have:=anyC_lex (kd:=kindAt l) (md:=.any) (K:=K) hB.1 l 0 (Array.replicate l.length false) a H (by simp) (fun j x hx=>by simp [kindAt,hx]) (Closed.none _) hB.2 h
    have h2:=wpAny_of_anyC hQ _ _ _ _ _ this (hs.drew (w.drawn+1))
    simpa using h2
end
end Go.Eng
