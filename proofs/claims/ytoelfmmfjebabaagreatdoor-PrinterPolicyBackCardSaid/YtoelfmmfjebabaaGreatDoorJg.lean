/- Joined. -/
import Derived.Test.YtoelfmmfjebabaaGreatDoorJa
import Derived.Test.YtoelfmmfjebabaaGreatDoorJd
import Derived.Test.YtoelfmmfjebabaaGreatDoorJe
import Derived.Test.YtoelfmmfjebabaaGreatDoorRows
import Derived.Handed
import Derived.HandedShaped
import Derived.JoinedCond
set_option linter.unusedSectionVars false
namespace Go.Proofs.YtoelfmmfjebabaaGreatDoor
open Go Go.Eng
set_option maxHeartbeats 1000000
set_option linter.unusedSimpArgs false
set_option linter.unusedVariables false
set_option maxRecDepth 20000
theorem pr_lies:liesAt Tryz.prog Tryz.prog.depth 66 (3 / Tryz.prog.cellsOf 66) 0 64 1=true:=by kernel_rfl
section
open Go.Proofs Go.Shelf Go.RowKit
set_option maxHeartbeats 1000000 in
theorem pcheck_fresh (b:Nat) (w:World) (h0:w.cell? ⟨b,0,none⟩=some (.pointer none)) (hsh:w.shape? b=some (66,3)) (hfz:w.frozen? ⟨b,0,none⟩=false) :
  Calls Tryz.prog 87 #[.pointer (some ⟨b,0,none⟩)] w fun e w'=>e=.returned (.tuple #[])∧w'=w.setCell ⟨b,0,none⟩ (.pointer (some ⟨b,0,none⟩)):=by
 obtain ⟨j,hj,hjs⟩:=Option.map_eq_some_iff.1 bi_size
 go_enter Tryz.func87,Tryz.ntmps87
 go_wp2
 rw [Lib.run_to_unsafe w ⟨b,0,none⟩ Tryz.underlying61 Tryz.underlying147 hj (by rw [hjs];decide) hsh (Nat.zero_lt_succ 2)]
 simp only [Result.andThen]
 rw [Oper.upon_value]
 go_wp2
 rw [run_callFunc_extern Tryz.func99 (by kernel_rfl) (by kernel_rfl) (by kernel_rfl) (e:=Extern.AbiNoEscape.same) (by kernel_rfl)]
 rw [Lib.run_noEscape]
 simp only [Result.andThen]
 rw [Oper.upon_value]
 go_wp2
 rw [Lib.run_from_unsafe w ⟨b,0,none⟩ Tryz.underlying147 Tryz.underlying61 hj hsh pr_lies]
 simp only [Result.andThen]
 rw [Oper.upon_value]
 go_wp2
 go_end0
 exact ⟨rfl,rfl⟩
end
abbrev PrO (p v:Value) (bad:Bool):Obj:=.cells #[p,v,.bool bad] 66 (0,0)
theorem pcheck_does (F:Base) (b:Nat) (p v:Value) (bad:Bool) (Ho:Hp) (hp:p=.pointer none∨p=.pointer (some ⟨b,0,none⟩)) (hd:∀ e∈Ho,e.1≠b) :
  Does Tryz.prog F 87 #[.pointer (some ⟨b,0,none⟩)] ((b,PrO p v bad)::Ho) (fun r H'=>r=.tuple #[]∧H'=(b,PrO (.pointer (some ⟨b,0,none⟩)) v bad)::Ho):=by
 intro w1 hw1 w hs
 have hb:=hs.own _ List.mem_cons_self
 have hc:w.cell? ⟨b,0,none⟩=some p:=by simp [World.cell?,hb]
 rcases hp with rfl | rfl
 ·refine (pcheck_fresh b w hc (by simp [World.shape?,hb]) (by simp [World.frozen?,hb])).mono ?_
  rintro e w' ⟨rfl,rfl⟩
  refine ⟨_,_,rfl,?_,rfl,rfl⟩
  have:=hs.put (b:=b) (o:=PrO (.pointer (some ⟨b,0,none⟩)) v bad) (w':=w.setCell ⟨b,0,none⟩ (.pointer (some ⟨b,0,none⟩))) ⟨_,List.mem_cons_self⟩ rfl rfl rfl (by simp [World.setCell,Array.getElem?_modify,hb]) (by simp [World.setCell]) (fun k hk=>by simp only [World.setCell,Array.getElem?_modify];rw [if_neg (fun e=>hk e.symm)])
  rw [upd_eq,upd_new hd] at this
  exact this
 ·refine (check_used b w hc).mono ?_
  rintro e w' ⟨rfl,rfl⟩
  exact ⟨_,_,rfl,hs,rfl,rfl⟩
def Pst (F:Base) (b:Nat) (s:Str) (bad:Bool) (H:Hp):Prop:=
 ∃ p v Ho,(p=.pointer none∨p=.pointer (some ⟨b,0,none⟩))∧OwnS F 1 5 (byteCells s) s.length v Ho∧(∀ e∈Ho,e.1≠b)∧F b=none∧H=(b,PrO p v bad)::Ho
theorem pstr_does (F:Base) (b:Nat) (l s:Str) (bad:Bool) {H0:Hp} (h:Pst F b l bad H0) (hl:l.length+s.length≤100000000000000) :
  Does Tryz.prog F 60 #[.pointer (some ⟨b,0,none⟩),.string (bs s)] H0 (fun r H'=>r=.tuple #[.int .i64 s.length,.nilIface]∧Pst F b (l++s) bad H'):=by
 obtain ⟨p,v,Ho,hp,ho,hd,hb,rfl⟩:=h
 refine Does.shr (K:=fun r H'=>r=.tuple #[.int .i64 s.length,.nilIface]∧∃ v' Ho',OwnS F 1 5 (byteCells (l++s)) (l++s).length v' Ho'∧(∀ e∈Ho',e.1≠b)∧∀ e∈(b,PrO (.pointer (some ⟨b,0,none⟩)) v' bad)::Ho',e∈H') ?_ (fun r H' ⟨h1,v',Ho',h2,h3,h4⟩=>⟨_,h4,h1,_,v',Ho',.inr rfl,h2,h3,hb,rfl⟩)
 refine does_of_svc mixed Tryz.func60 low60 (Nat.le_of_ble_eq_true rfl) (fun w0 hw0=>?_)
 simp (disch:=first | assumption | exact .symm ‹_› | omega) only [fu60,↓ZD,ZW,simprocAttr]
 refine CallE.does ((b,PrO p v bad)::Ho) [] (pcheck_does F b p v bad Ho hp hd) (fun _ _ h=>by simp [rdObj,h]) (fun e h=>h) (fun e h=>by cases h) (fun e h=>by cases h) ?_
 rintro _ _ ⟨rfl,rfl⟩ h1 h2 h3
 simp (disch:=first | assumption | exact .symm ‹_› | omega) only [hb,↓ZD,ZW,simprocAttr]
 by_cases hs0:s=[]
 ·subst hs0
  obtain ⟨base,cap,rfl,hcap⟩:=ho.len_le
  refine EfL.zero (by rw [rowsOf_str];rfl) hcap ?_
  simp (disch:=first | assumption | exact .symm ‹_› | omega) only [hb,↓ZD,ZW,simprocAttr]
  exact ⟨_,_,by simpa using ho,hd,fun e h=>by rw [upd_new hd];exact h⟩
 ·refine EfL.grow (Hr:=[(b,PrO (.pointer (some ⟨b,0,none⟩)) v bad)]) (m:=s.length) (nw:=byteCells s) ho (ho.lk [_] (by simp only [List.forall_mem_cons,List.not_mem_nil,false_implies,implies_true,and_true];exact hd)) (by simp) (by simp only [List.forall_mem_cons,List.not_mem_nil,false_implies,implies_true,and_true];exact hd) rowsOf_str (by simp [byteCells_len]) (by simp [byteCells,oneCell]) (by simpa [byteCells] using hs0) (by omega) ?_
  intro b2 cap sp hs hc hcm hF2 hne
  simp only [List.forall_mem_cons] at hne
  simp (disch:=first | assumption | exact .symm ‹_› | omega) only [hb,hF2,↓ZD,ZW,simprocAttr]
  refine ⟨_,_,.own b2 cap sp _ _ hF2 (by simp [byteCells]) (by simpa using hs) (by simpa using hc) hcm,by simpa using fun e=>hne.1 e.symm,?_⟩
  simp [byteCells_app,byteCells]
theorem must_does (F:Base) (b:Nat) (l:Str) (bad is:Bool) {H0:Hp} (h:Pst F b l bad H0) :
  Does Tryz.prog F 27 #[.pointer (some ⟨b,0,none⟩),.bool is] H0 (fun r H'=>r=.tuple #[]∧Pst F b l (bad||!is) H'):=by
 obtain ⟨p,v,Ho,hp,ho,hd,hb,rfl⟩:=h
 refine does_of_svc mixed Tryz.func27 low27 (Nat.le_of_ble_eq_true rfl) (fun w0 hw0=>?_)
 simp (disch:=first | assumption | exact .symm ‹_› | omega) only [fu27,hb,↓ZD,ZW,simprocAttr]
 refine ⟨p,v,Ho,hp,ho,hd,hb,?_⟩
 rw [upd_new hd]
theorem HLe_refl {H:Hp} (h:∀ e∈H,lk H e.1=some e.2):HLe H H:=by
 have key:∀ A:Hp,(∀ e∈A,lk H e.1=some e.2)→HLe A H:=fun A=>by
  induction A with
  | nil=>intro _;trivial
  | cons e r ih=>
   obtain ⟨b,o⟩:=e
   intro h
   exact ⟨h _ List.mem_cons_self,ih fun e he=>h e (List.mem_cons_of_mem _ he)⟩
 exact key H h
theorem OwnS.reF {F F':Base} {n T len:Nat} {l:List Value} {v:Value} {Ho:Hp} (h:OwnS F n T l len v Ho) (hF:∀ e∈Ho,F' e.1=none):OwnS F' n T l len v Ho:=by
 cases h with
 | nil=>exact .nil
 | own b2 cap sp l len hF2 hl hs hc hm=>exact .own b2 cap sp l _ (hF _ List.mem_cons_self) hl hs hc hm
theorem OwnS.noneF {F:Base} {n T len:Nat} {l:List Value} {v:Value} {Ho:Hp} (h:OwnS F n T l len v Ho):∀ e∈Ho,F e.1=none:=by
 cases h with
 | nil=>intro e he;cases he
 | own b2 cap sp l len hF2 hl hs hc hm=>intro e he;rw [List.mem_singleton.1 he];exact hF2
theorem Pst.lk {F:Base} {b:Nat} {s:Str} {bad:Bool} {H:Hp} (h:Pst F b s bad H):∀ e∈H,Eng.lk H e.1=some e.2:=by
 obtain ⟨p,v,Ho,hp,ho,hd,hb,rfl⟩:=h
 intro e he
 rcases List.mem_cons.1 he with rfl | he
 ·simp [Eng.lk]
 ·have:=ho.lk [] (fun e he=>by cases he) e he
  rw [List.nil_append] at this
  simp only [Eng.lk]
  rw [if_neg (fun x=>hd e he x.symm)]
  exact this
theorem Pst.hle {F:Base} {b:Nat} {s:Str} {bad:Bool} {H:Hp} (h:Pst F b s bad H):HLe H H:=HLe_refl h.lk
theorem Pst.up {F:Base} {b:Nat} {s:Str} {bad:Bool} {H Hr:Hp} (h:Pst F b s bad H) (hd:∀ e'∈Hr,∀ e∈H,e.1≠e'.1):Pst (rdObj F Hr) b s bad H:=by
 obtain ⟨p,v,Ho,hp,ho,hd2,hb,rfl⟩:=h
 exact ⟨p,v,Ho,hp,OwnS.reF ho fun e he=>rdObj_none (OwnS.noneF ho e he) fun e' he' x=>hd e' he' e (List.mem_cons_of_mem _ he) x.symm,hd2,rdObj_none hb fun e' he' x=>hd e' he' _ List.mem_cons_self x.symm,rfl⟩
theorem Pst.down {F:Base} {b:Nat} {s:Str} {bad:Bool} {H Hr:Hp} (h:Pst (rdObj F Hr) b s bad H):Pst F b s bad H:=by
 obtain ⟨p,v,Ho,hp,ho,hd2,hb,rfl⟩:=h
 exact ⟨p,v,Ho,hp,OwnS.reF ho fun e he=>rdObj_le (OwnS.noneF ho e he),hd2,rdObj_le hb,rfl⟩
def Wr (F:Base) (f:Nat) (args:List Value) (b:Nat) (s0:Str) (bad0:Bool) (s1:Str) (bad1:Bool) (R:Value):Prop:=
 ∀ H0,Pst F b s0 bad0 H0→Does Tryz.prog F f args.toArray H0 (fun r H'=>r=R∧Pst F b s1 bad1 H')
theorem CallE.wr {X:List Nat} {F:Base} {w0:World} {f:Nat} {args:List Value} {H:Hp} {K:Value→Hp→Prop} {b:Nat} {s0 s1:Str} {bad0 bad1:Bool} {R:Value} (Hr H0:Hp) (h:Wr (rdObj F Hr) f args b s0 bad0 s1 bad1 R)
  (hp:Pst F b s0 bad0 H0) (h0:∀ e∈H0,e∈H) (hr:∀ e∈Hr,e∈H) (hd:∀ e'∈Hr,∀ e∈H0,e.1≠e'.1)
  (hk:∀ H',Pst F b s1 bad1 H'→(∀ e'∈Hr,∀ e∈H',e.1≠e'.1)→K R (Hr++H')):@CallE Tryz.prog X F w0 f args.toArray H ⟨K⟩:=
 CallE.does H0 Hr (h H0 (hp.up hd)) (fun _ _ h=>h) h0 hr hd fun v H' ⟨hv,hp'⟩ _ h2 _=>by subst hv;exact hk H' hp'.down h2
theorem put_wr (F:Base) (b:Nat) (s:Str) (bad:Bool) {v:Value} {l:List Str} (hv:SlS F v l) (hl:s.length+l.flatten.length≤100000000000000) :
  Wr F 30 [.pointer (some ⟨b,0,none⟩),v] b s bad (s++l.flatten) bad (.tuple #[]):=by
 intro H0 hp
 obtain ⟨a,c,rfl,hc,hl2,hh⟩:=hv
 refine does_of_svc mixed Tryz.func30 low30 (Nat.le_of_ble_eq_true rfl) (fun w0 hw0=>?_)
 simp (disch:=first | assumption | exact .symm ‹_› | omega) only [fu30,↓ZD,ZW,simprocAttr]
 refine LoopL.inv (α:=Nat×Hp) (fun x=>x.1≤l.length∧Pst F b (s++(l.take x.1).flatten) bad x.2)
  (fun x=>[(0,some (.pointer (some ⟨b,0,none⟩))),(6,some (.slice a l.length c)),(7,some (.int .i64 l.length)),(8,some (.int .i64 x.1))])
  (fun x=>x.2) (fun x=>l.length - x.1) (0,H0) ⟨Nat.zero_le _,by simpa using hp⟩ (by (simp (disch:=first | assumption | exact .symm ‹_› | omega) only [↓ZD,ZW,simprocAttr];try trivial)) hp.hle ?_
 rintro ⟨i,H⟩ ⟨hi,hpi⟩
 simp only at hi hpi ⊢
 by_cases hlt:i < l.length
 ·have hd:decide ((i:Int) < (l.length:Int))=true:=by simp;omega
  have gx:=getS hlt
  obtain ⟨ba,oa,rfl,hla⟩:=(hh.1 i _ gx).ld1
  simp only [Nat.mul_one] at hla
  have hts:l.take (i+1)=l.take i++[l.getD i []]:=take_snoc gx
  have hle:(l.take (i+1)).flatten.length≤l.flatten.length:=by
   conv=>rhs;rw [← List.take_append_drop (i+1) l,List.flatten_append,List.length_append]
   omega
  rw [hts,List.flatten_append,List.length_append] at hle
  simp only [List.flatten_cons,List.flatten_nil,List.append_nil] at hle
  simp (disch:=first | assumption | exact .symm ‹_› | omega) only [hd,Nat.mul_one,↓ZD,ZW,simprocAttr]
  refine conj.of (by omega) ?_
  simp (disch:=first | assumption | exact .symm ‹_› | omega) only [hd,Int.toNat_natCast,Nat.mul_one,↓hla,↓ZD,ZW,simprocAttr]
  refine CallE.does H [] (pstr_does F b _ (l.getD i []) bad hpi (by simp only [List.length_append];omega)) (fun _ _ h=>by simp [rdObj,h]) (fun e h=>h) (fun e h=>by cases h) (fun e h=>by cases h) ?_
  rintro _ H2 ⟨rfl,hp2⟩ h1 h2 h3
  simp (disch:=first | assumption | exact .symm ‹_› | omega) only [↓ZD,ZW,simprocAttr]
  refine invK.on (i+1,H2) ⟨by show i+1≤_;omega,by rw [hts,List.flatten_append,← List.append_assoc];simpa using hp2⟩ (by show _ - (i+1) < _ - i;omega) ?_ hp2.hle
  simp only [Le_nil,Le_cons]
  simp (disch:=first | assumption | exact .symm ‹_› | omega) only [↓ZD,ZW,simprocAttr]
  rfl
 ·have hd:decide ((i:Int) < (l.length:Int))=false:=by simp;omega
  obtain rfl:i=l.length:=by omega
  rw [List.take_length] at hpi
  simp (disch:=first | assumption | exact .symm ‹_› | omega) only [hd,↓ZD,ZW,simprocAttr]
  exact hpi
theorem Wr.of_svc {ov:List Nat} {F:Base} {f:Nat} {fn:Func} {fu:Fun} {args:List Value} {b:Nat} {s0 s1:Str} {bad0 bad1:Bool} {R:Value} (hm:Tryz.prog.follows .mixedOrders=true) (hf:Tryz.prog.funcs[f]?=some fn) (hl:lowF Tryz.prog ov fn=some fu) (hn:args.length≤fu.n)
  (h:∀ H0,Pst F b s0 bad0 H0→∀ w0,(∀ b o,F b=some o→w0.heap[b]?=some o)→svc Tryz.prog (H0.map (·.1)) F w0 fu.n fu.c (numb 0 args) H0 (fin F fu.rv fun r H'=>r=R∧∃ Hc,(∀ e∈Hc,e∈H')∧Pst F b s1 bad1 Hc)) :
  Wr F f args b s0 bad0 s1 bad1 R:=fun H0 hp=>
 Does.shr (K:=fun r H'=>r=R∧∃ Hc,(∀ e∈Hc,e∈H')∧Pst F b s1 bad1 Hc) (does_of_svc hm hf hl hn (h H0 hp)) fun _ _ ⟨h1,Hc,h2,h3⟩=>⟨Hc,h2,h1,h3⟩
theorem must_wr (F:Base) (b:Nat) (s:Str) (bad is:Bool):Wr F 27 [.pointer (some ⟨b,0,none⟩),.bool is] b s bad s (bad||!is) (.tuple #[]):=fun H0 hp=>must_does F b s bad is hp
theorem put1 (F:Base) (b b1 T:Nat) (s x:Str) (bad:Bool) (h:F b1=some (.cells #[.string (bs x)] T (0,0))) (hl:s.length+x.length≤100000000000000) :
  Wr F 30 [.pointer (some ⟨b,0,none⟩),.slice (some ⟨b1,0,none⟩) 1 1] b s bad (s++x) bad (.tuple #[]):=by
 have:=put_wr F b s bad (slsN (l:=[x]) h (by simp) (by simp;omega)) (by simpa using hl)
 simpa using this
theorem put2 (F:Base) (b b1 T:Nat) (s x y:Str) (bad:Bool) (h:F b1=some (.cells #[.string (bs x),.string (bs y)] T (0,0))) (hl:s.length+(x.length+y.length)≤100000000000000) :
  Wr F 30 [.pointer (some ⟨b,0,none⟩),.slice (some ⟨b1,0,none⟩) 2 2] b s bad (s++(x++y)) bad (.tuple #[]):=by
 have:=put_wr F b s bad (slsN (l:=[x,y]) h (by simp) (by simp;omega)) (by simpa using hl)
 simpa using this
theorem put3 (F:Base) (b b1 T:Nat) (s x y z:Str) (bad:Bool) (h:F b1=some (.cells #[.string (bs x),.string (bs y),.string (bs z)] T (0,0))) (hl:s.length+(x.length+(y.length+z.length))≤100000000000000) :
  Wr F 30 [.pointer (some ⟨b,0,none⟩),.slice (some ⟨b1,0,none⟩) 3 3] b s bad (s++(x++(y++z))) bad (.tuple #[]):=by
 have:=put_wr F b s bad (slsN (l:=[x,y,z]) h (by simp) (by simp;omega)) (by simpa using hl)
 simpa using this
theorem cutT_pure (F:Base) (hg:HasM F) (s:Str) (hs:s.length < 4294967281):PureV Tryz.prog F 61 #[.string (bs s),.string (bs [58,58])] (.tuple #[.string (bs (Go.Lib.cut s cc).1),.string (bs (Go.Lib.cut s cc).2.1),.bool (Go.Lib.cut s cc).2.2]):=by
 intro w hw
 obtain ⟨c,T,fz,m,h1,h2⟩:=hg
 have hb:=hw _ _ h1
 have hc:w.cell? ⟨2,0,none⟩=some (.int .i64 m):=by simp [World.cell?,hb,h2]
 refine (Tryz.strings_Cut (bs s) (bs cc) m w hs hc).mono ?_
 rintro e w' ⟨rfl,n,rfl⟩
 exact ⟨rfl,⟨rfl,rfl,rfl,Nat.le_refl _,fun _ _=>rfl⟩⟩
def fst58 (s:Str):Str:=s.takeWhile (· != 58)
def okPath (s:Str):Bool:=pathB s&&!decide (fst58 s∈ownL)
theorem name_58 {s:Str} (h:nameB s=true):∀ c∈s,c≠58:=by
 intro c hc e
 subst e
 have key:isLD 58=false:=by decide
 cases s with
 | nil=>cases hc
 | cons a r=>
  simp only [nameB,Bool.and_eq_true,List.all_eq_true] at h
  rcases List.mem_cons.1 hc with rfl | hc
  ·rw [isLD_of h.1] at key;cases key
  ·rw [h.2 _ hc] at key;cases key
theorem takeWhileT_all {p:UInt8→Bool}:∀ {s:Str},(∀ c∈s,p c=true)→s.takeWhile p=s
 | [],_=>rfl
 | c::s,h=>by
  rw [List.takeWhile_cons,if_pos (h c List.mem_cons_self),takeWhileT_all fun d hd=>h d (List.mem_cons_of_mem _ hd)]
theorem cut_fst {s:Str} (h:pathB s=true):(Go.Lib.cut s cc).1=fst58 s:=by
 unfold Go.Lib.cut
 rcases Go.Lib.index_spec s cc with ⟨h1,h2⟩ | ⟨k,h1,h2,h3,h4⟩
 ·rw [pathB_miss h1] at h
  rw [if_neg (by omega)]
  exact (takeWhileT_all fun c hc=>by simpa using name_58 h c hc).symm
 ·rw [pathB_hit h1,Bool.and_eq_true] at h
  rw [if_pos (by omega),h1]
  simp only [Int.toNat_natCast]
  have h5:s.drop k=58::(s.drop k).tail:=by
   unfold Go.Lib.occAt at h3
   cases hd:s.drop k with
   | nil=>rw [hd] at h3;simp [cc] at h3
   | cons c r=>
    rw [hd] at h3
    simp only [cc,List.isPrefixOf,Bool.and_eq_true,beq_iff_eq] at h3
    rw [← h3.1];rfl
  unfold fst58
  conv=>rhs;rw [← List.take_append_drop k s,h5]
  rw [List.takeWhile_append_of_pos fun c hc=>by simpa using name_58 h.1 c hc,List.takeWhile_cons,if_neg (by decide),List.append_nil]
theorem stp_bslice_guard {P:Program} {X:List Nat} {F:Base} {w0:World} {N T len l:Nat} {z:List Value} {ps:List (Nat×Nat×Eng.X)} {d:Option Nat} {U:Fr} {C:Cf} {H:Hp} {next:Fr→Cf→Hp→Prop} {k:Kind} {ob:Prop} {out:List Value} (hr:fillL (rd U C (chain C (some l))) z ps=some (ob,out))
  (h1:Wf U C (chain C (some l)) (chain C (some l))→ob∧@NewB F H (.cells out.toArray T) ⟨fun b H'=>put d (chain C (some l)) (.slice (some ⟨b,0,none⟩) len len) U C H' next⟩) (h2:NW U C (chain C (some l))→skp d (chain C (some l)) U C (fun U C=>next U C H)) :
  stp P X F w0 N ⟨d,.bslice T len z ps,some l,k⟩ U C H next:=by
 unfold stp
 simp only [hr]
 exact ⟨h1,h2⟩
theorem own_len:∀ x∈ownL,x.length≤9223372036854775807:=by decide
theorem own_sls {F:Base} {b T:Nat} (h:F b=some (.cells #[.string (bs [105,102]),.string (bs [116,104,101,110]),.string (bs [101,108,115,101]),.string (bs [116,114,117,101]),.string (bs [102,97,108,115,101]),.string (bs [105,110]),.string (bs [104,97,115]),.string (bs [105,115])] T (0,0))):SlS F (.slice (some ⟨b,0,none⟩) 8 8) ownL:=
 ⟨_,8,rfl,by decide,by decide,fun i x hx=>by
  rcases i with _ | _ | _ | _ | _ | _ | _ | _ | i
  all_goals first
   | (simp only [ownL,List.getElem?_cons_zero,List.getElem?_cons_succ,Option.some.injEq] at hx;subst hx;exact ⟨b,0,_,_,_,rfl,h,by simp,by simp⟩)
   | (simp [ownL] at hx),fun i x hx=>own_len x (List.mem_of_getElem? hx)⟩
theorem path_wr (F:Base) (hg:HasM F) (b:Nat) (s0:Str) (bad:Bool) (s:Str) (hl:s0.length+s.length≤100000000000000) (hs:s.length≤1000000000) :
  Wr F 31 [.pointer (some ⟨b,0,none⟩),.string (bs s)] b s0 bad (s0++s) (bad||!okPath s) (.tuple #[]):=by
 have k1:=cutT_pure F hg s (by omega)
 have k2:=path_pure F hg s hs
 refine Wr.of_svc mixed Tryz.func31 low31 (Nat.le_of_ble_eq_true rfl) fun H0 hp w0 hw0=>?_
 simp (disch:=first | assumption | exact .symm ‹_› | omega) only [fu31,↓ZD,ZW,simprocAttr]
 refine CallE.pure k1 ?_
 simp (disch:=first | assumption | exact .symm ‹_› | omega) only [↓ZD,ZW,simprocAttr]
 refine CallE.pure k2 ?_
 cases hpb:pathB s with
 | true=>
  rw [cut_fst hpb]
  simp (disch:=first | assumption | exact .symm ‹_› | omega) only [↓ZD,ZW,simprocAttr]
  refine stp_bslice_guard (ob:=True) (out:=[.string (bs [105,102]),.string (bs [116,104,101,110]),.string (bs [101,108,115,101]),.string (bs [116,114,117,101]),.string (bs [102,97,108,115,101]),.string (bs [105,110]),.string (bs [104,97,115]),.string (bs [105,115])]) (by simp (disch:=first | assumption | exact .symm ‹_› | omega) only [↓ZD,ZW,simprocAttr]) (fun h=>⟨trivial,NewB.of fun b9 hb9 hF9=>?_⟩) (fun h=>?_)
  ·simp (disch:=first | assumption | exact .symm ‹_› | omega) only [↓ZD,ZW,simprocAttr]
   have k3:=contains_pure (rdObj F ((b9,.cells #[.string (bs [105,102]),.string (bs [116,104,101,110]),.string (bs [101,108,115,101]),.string (bs [116,114,117,101]),.string (bs [102,97,108,115,101]),.string (bs [105,110]),.string (bs [104,97,115]),.string (bs [105,115])] 9 (0,0))::H0)) (own_sls (b:=b9) (T:=9) (by simp [rdObj,hF9,lk])) (fst58 s)
   refine CallQ.of _ k3 ?_
   simp (disch:=first | assumption | exact .symm ‹_› | omega) only [↓ZD,ZW,simprocAttr]
   refine CallE.wr [(b9,.cells #[.string (bs [105,102]),.string (bs [116,104,101,110]),.string (bs [101,108,115,101]),.string (bs [116,114,117,101]),.string (bs [102,97,108,115,101]),.string (bs [105,110]),.string (bs [104,97,115]),.string (bs [105,115])] 9 (0,0))] H0 (must_wr _ b s0 bad _) hp (fun e he=>List.mem_cons_of_mem _ he) (by simp) (by simpa using hb9) ?_
   intro H1 hp1 hd1
   simp (disch:=first | assumption | exact .symm ‹_› | omega) only [↓ZD,ZW,simprocAttr]
   refine NewB.of fun b1 hb1 hF1=>?_
   simp only [List.forall_mem_cons] at hb1
   simp (disch:=first | assumption | exact .symm ‹_› | omega) only [hF1,↓ZD,ZW,simprocAttr]
   refine CallE.wr [(b1,.cells #[.string (bs s)] 9 (0,0))] H1 (put1 _ b b1 9 s0 s _ (by simp [rdObj,hF1,lk]) hl) hp1 (by simp +contextual) (by simp) (by simpa using hb1.2) ?_
   intro H2 hp2 hd2
   simp (disch:=first | assumption | exact .symm ‹_› | omega) only [↓ZD,ZW,simprocAttr]
   exact ⟨H2,by simp +contextual,by unfold okPath;rw [hpb];exact hp2⟩
  ·have h':(true:Bool)=false:=h
   cases h'
 | false=>
  simp (disch:=first | assumption | exact .symm ‹_› | omega) only [↓ZD,ZW,simprocAttr]
  refine stp_bslice_guard (ob:=True) (out:=[.string (bs [105,102]),.string (bs [116,104,101,110]),.string (bs [101,108,115,101]),.string (bs [116,114,117,101]),.string (bs [102,97,108,115,101]),.string (bs [105,110]),.string (bs [104,97,115]),.string (bs [105,115])]) (by simp (disch:=first | assumption | exact .symm ‹_› | omega) only [↓ZD,ZW,simprocAttr]) (fun h=>?_) (fun h=>?_)
  ·have h':(false:Bool)=true:=h.1
   cases h'
  ·unfold skp
   simp (disch:=first | assumption | exact .symm ‹_› | omega) only [↓ZD,ZW,simprocAttr]
   refine CallQ.of (.bool false) trivial ?_
   simp (disch:=first | assumption | exact .symm ‹_› | omega) only [↓ZD,ZW,simprocAttr]
   refine CallE.wr [] H0 (must_wr _ b s0 bad _) hp (fun e he=>he) (by simp) (by simp) ?_
   intro H1 hp1 hd1
   simp (disch:=first | assumption | exact .symm ‹_› | omega) only [↓ZD,ZW,simprocAttr]
   refine NewB.of fun b1 hb1 hF1=>?_
   simp (disch:=first | assumption | exact .symm ‹_› | omega) only [hF1,↓ZD,ZW,simprocAttr]
   refine CallE.wr [(b1,.cells #[.string (bs s)] 9 (0,0))] H1 (put1 _ b b1 9 s0 s _ (by simp [rdObj,hF1,lk]) hl) hp1 (by simp +contextual) (by simp) (by simpa using hb1) ?_
   intro H2 hp2 hd2
   simp (disch:=first | assumption | exact .symm ‹_› | omega) only [↓ZD,ZW,simprocAttr]
   exact ⟨H2,by simp +contextual,by unfold okPath;rw [hpb];exact hp2⟩
def uidT (ty id:Str):Str:=ty++(cc++quote id)
def litT (v:LV):Str:=if v.kind=1 then (if v.bo then [116,114,117,101] else [102,97,108,115,101]) else if v.kind=2 then shows v.n else if v.kind=3 then quote v.tx else if v.kind=4 then uidT v.ty v.id else []
def litOk (v:LV):Bool:=decide (v.kind=1)||(decide (v.kind=2)&&decide (0≤v.n))||decide (v.kind=3)||(decide (v.kind=4)&&okPath v.ty)
def SmT (s:Str):Prop:=s.length≤1048576
theorem uid_wr (F:Base) (hg:HasM F) (b:Nat) (s0:Str) (bad:Bool) (ty id:Str) (hl:s0.length+(uidT ty id).length≤100000000000000) (h1:SmT ty) (h2:SmT id) :
  Wr F 58 [.pointer (some ⟨b,0,none⟩),.agg #[.string (bs ty),.string (bs id)]] b s0 bad (s0++uidT ty id) (bad||!okPath ty) (.tuple #[]):=by
 unfold SmT at h1 h2
 have hl':s0.length+ty.length+(cc.length+(quote id).length)≤100000000000000:=by simpa [uidT,Nat.add_assoc] using hl
 refine Wr.of_svc mixed Tryz.func58 low58 (Nat.le_of_ble_eq_true rfl) fun H0 hp w0 hw0=>?_
 simp (disch:=first | assumption | exact .symm ‹_› | omega) only [fu58,↓ZD,ZW,simprocAttr]
 refine NewB.of fun b3 hb3 hF3=>?_
 simp (disch:=first | assumption | exact .symm ‹_› | omega) only [hF3,↓ZD,ZW,simprocAttr]
 refine CallE.wr [(b3,.cells #[.string (bs ty),.string (bs id)] 24 (0,0))] H0 (path_wr _ (hg.mono le_up) b s0 bad ty (by omega) (by omega)) hp (by simp +contextual) (by simp) (by simpa using hb3) ?_
 intro H1 hp1 hd1
 simp only [List.forall_mem_cons,List.not_mem_nil,false_implies,implies_true,and_true] at hd1
 simp (disch:=first | assumption | exact .symm ‹_› | omega) only [hF3,↓ZD,ZW,simprocAttr]
 refine CallE.pure (quote_pure F id (by omega)) ?_
 simp (disch:=first | assumption | exact .symm ‹_› | omega) only [hF3,↓ZD,ZW,simprocAttr]
 refine NewB.of fun b1 hb1 hF1=>?_
 simp only [List.forall_mem_cons,List.mem_cons,forall_eq_or_imp] at hb1
 simp (disch:=first | assumption | exact .symm ‹_› | omega) only [hF1,hF3,↓ZD,ZW,simprocAttr]
 refine CallE.wr [(b1,.cells #[.string (bs [58,58]),.string (bs (quote id))] 9 (0,0))] H1 (put2 _ b b1 9 (s0++ty) cc (quote id) _ (by simp [rdObj,hF1,lk,cc]) (by simp only [List.length_append];omega)) hp1 (by simp +contextual) (by simp) (by simpa using hb1.2) ?_
 intro H2 hp2 hd2
 simp (disch:=first | assumption | exact .symm ‹_› | omega) only [↓ZD,ZW,simprocAttr]
 exact ⟨H2,by simp +contextual,by unfold uidT;rw [← List.append_assoc];exact hp2⟩
theorem showsT_len {a:Int} (ha:I64 a):(shows a).length≤21:=by
 unfold I64 at ha
 unfold shows
 split
 ·have:=digs_len' (n:=(-a).toNat) (by omega)
  simp only [List.length_cons];omega
 ·have:=digs_len' (n:=a.toNat) (by omega)
  omega
theorem lit_wr (F:Base) (hg:HasM F) (b:Nat) (s0:Str) (bad:Bool) (v:LV) (u1 u2:Value) (hl:s0.length+(litT v).length≤100000000000000) (h1:SmT v.ty) (h2:SmT v.id) (h3:SmT v.tx) (hn:I64 v.n) :
  Wr F 28 [.pointer (some ⟨b,0,none⟩),.agg (v.cells u1 u2).toArray] b s0 bad (s0++litT v) (bad||!litOk v) (.tuple #[]):=by
 have hq:=quote_pure F v.tx (Nat.le_trans h3 (by decide))
 have hs:=show_pure F v.n hn
 obtain ⟨k,bo,n,tx,ty,id⟩:=v
 simp only at h1 h2 h3 hn hq hs
 refine Wr.of_svc mixed Tryz.func28 low28 (Nat.le_of_ble_eq_true rfl) fun H0 hp w0 hw0=>?_
 unfold LV.cells
 by_cases k1:k=1
 ·have e1:(k==1)=true:=by simpa using k1
  have hl1:s0.length+(if bo then ([116,114,117,101]:Str) else [102,97,108,115,101]).length≤100000000000000:=by simpa [litT,k1] using hl
  simp (disch:=first | assumption | exact .symm ‹_› | omega) only [fu28,↓ZD,ZW,simprocAttr]
  refine NewB.of fun b3 hb3 hF3=>?_
  simp (disch:=first | assumption | exact .symm ‹_› | omega) only [hF3,e1,↓ZD,ZW,simprocAttr]
  cases bo with
  | true=>
   simp (disch:=first | assumption | exact .symm ‹_› | omega) only [hF3,↓ZD,ZW,simprocAttr]
   refine NewB.of fun b1 hb1 hF1=>?_
   simp only [List.forall_mem_cons,List.mem_cons,forall_eq_or_imp] at hb1
   simp (disch:=first | assumption | exact .symm ‹_› | omega) only [hF1,hF3,↓ZD,ZW,simprocAttr]
   refine CallE.wr [(b1,.cells #[.string (bs [116,114,117,101])] 9 (0,0))] H0 (put1 _ b b1 9 s0 [116,114,117,101] _ (by simp [rdObj,hF1,lk]) (by simpa using hl1)) hp (by simp +contextual) (by simp) (by simpa using hb1.2) ?_
   intro H2 hp2 hd2
   simp (disch:=first | assumption | exact .symm ‹_› | omega) only [↓ZD,ZW,simprocAttr]
   exact ⟨H2,by simp +contextual,by simpa [litT,litOk,k1] using hp2⟩
  | false=>
   simp (disch:=first | assumption | exact .symm ‹_› | omega) only [hF3,↓ZD,ZW,simprocAttr]
   refine NewB.of fun b1 hb1 hF1=>?_
   simp only [List.forall_mem_cons,List.mem_cons,forall_eq_or_imp] at hb1
   simp (disch:=first | assumption | exact .symm ‹_› | omega) only [hF1,hF3,↓ZD,ZW,simprocAttr]
   refine CallE.wr [(b1,.cells #[.string (bs [102,97,108,115,101])] 9 (0,0))] H0 (put1 _ b b1 9 s0 [102,97,108,115,101] _ (by simp [rdObj,hF1,lk]) (by simpa using hl1)) hp (by simp +contextual) (by simp) (by simpa using hb1.2) ?_
   intro H2 hp2 hd2
   simp (disch:=first | assumption | exact .symm ‹_› | omega) only [↓ZD,ZW,simprocAttr]
   exact ⟨H2,by simp +contextual,by simpa [litT,litOk,k1] using hp2⟩
 by_cases k2:k=2
 ·have e1:(k==1)=false:=by simpa using k1
  have e2:(k==2)=true:=by simpa using k2
  have hl1:s0.length+(shows n).length≤100000000000000:=by simpa [litT,k2] using hl
  simp (disch:=first | assumption | exact .symm ‹_› | omega) only [fu28,↓ZD,ZW,simprocAttr]
  refine NewB.of fun b3 hb3 hF3=>?_
  simp (disch:=first | assumption | exact .symm ‹_› | omega) only [hF3,e1,e2,↓ZD,ZW,simprocAttr]
  refine CallE.wr [(b3,.cells #[.int .i64 k,.bool bo,.int .i64 n,.string (bs tx),.string (bs ty),.string (bs id),u1,u2] 28 (0,0))] H0 (must_wr _ b s0 bad _) hp (by simp +contextual) (by simp) (by simpa using hb3) ?_
  intro H1 hp1 hd1
  simp only [List.forall_mem_cons,List.not_mem_nil,false_implies,implies_true,and_true] at hd1
  simp (disch:=first | assumption | exact .symm ‹_› | omega) only [hF3,↓ZD,ZW,simprocAttr]
  refine CallE.pure hs ?_
  simp (disch:=first | assumption | exact .symm ‹_› | omega) only [hF3,↓ZD,ZW,simprocAttr]
  refine NewB.of fun b1 hb1 hF1=>?_
  simp only [List.forall_mem_cons,List.mem_cons,forall_eq_or_imp] at hb1
  simp (disch:=first | assumption | exact .symm ‹_› | omega) only [hF1,hF3,↓ZD,ZW,simprocAttr]
  refine CallE.wr [(b1,.cells #[.string (bs (shows n))] 9 (0,0))] H1 (put1 _ b b1 9 s0 (shows n) _ (by simp [rdObj,hF1,lk]) hl1) hp1 (by simp +contextual) (by simp) (by simpa using hb1.2) ?_
  intro H2 hp2 hd2
  simp (disch:=first | assumption | exact .symm ‹_› | omega) only [↓ZD,ZW,simprocAttr]
  refine ⟨H2,by simp +contextual,?_⟩
  have e:litOk ⟨k,bo,n,tx,ty,id⟩=decide (0≤n):=by simp [litOk,k2]
  rw [e]
  simpa [litT,k2] using hp2
 by_cases k3:k=3
 ·have e1:(k==1)=false:=by simpa using k1
  have e2:(k==2)=false:=by simpa using k2
  have e3:(k==3)=true:=by simpa using k3
  have hl1:s0.length+(quote tx).length≤100000000000000:=by simpa [litT,k3] using hl
  simp (disch:=first | assumption | exact .symm ‹_› | omega) only [fu28,↓ZD,ZW,simprocAttr]
  refine NewB.of fun b3 hb3 hF3=>?_
  simp (disch:=first | assumption | exact .symm ‹_› | omega) only [hF3,e1,e2,e3,↓ZD,ZW,simprocAttr]
  refine CallE.pure hq ?_
  simp (disch:=first | assumption | exact .symm ‹_› | omega) only [hF3,↓ZD,ZW,simprocAttr]
  refine NewB.of fun b1 hb1 hF1=>?_
  simp only [List.forall_mem_cons,List.mem_cons,forall_eq_or_imp] at hb1
  simp (disch:=first | assumption | exact .symm ‹_› | omega) only [hF1,hF3,↓ZD,ZW,simprocAttr]
  refine CallE.wr [(b1,.cells #[.string (bs (quote tx))] 9 (0,0))] H0 (put1 _ b b1 9 s0 (quote tx) _ (by simp [rdObj,hF1,lk]) hl1) hp (by simp +contextual) (by simp) (by simpa using hb1.2) ?_
  intro H2 hp2 hd2
  simp (disch:=first | assumption | exact .symm ‹_› | omega) only [↓ZD,ZW,simprocAttr]
  exact ⟨H2,by simp +contextual,by simpa [litT,litOk,k3] using hp2⟩
 by_cases k4:k=4
 ·have e1:(k==1)=false:=by simpa using k1
  have e2:(k==2)=false:=by simpa using k2
  have e3:(k==3)=false:=by simpa using k3
  have e4:(k==4)=true:=by simpa using k4
  have hl1:s0.length+(uidT ty id).length≤100000000000000:=by simpa [litT,k4] using hl
  simp (disch:=first | assumption | exact .symm ‹_› | omega) only [fu28,↓ZD,ZW,simprocAttr]
  refine NewB.of fun b3 hb3 hF3=>?_
  simp (disch:=first | assumption | exact .symm ‹_› | omega) only [hF3,e1,e2,e3,e4,↓ZD,ZW,simprocAttr]
  refine CallE.wr [(b3,.cells #[.int .i64 k,.bool bo,.int .i64 n,.string (bs tx),.string (bs ty),.string (bs id),u1,u2] 28 (0,0))] H0 (uid_wr _ (hg.mono le_up) b s0 bad ty id hl1 h1 h2) hp (by simp +contextual) (by simp) (by simpa using hb3) ?_
  intro H1 hp1 hd1
  simp (disch:=first | assumption | exact .symm ‹_› | omega) only [↓ZD,ZW,simprocAttr]
  exact ⟨H1,by simp +contextual,by simpa [litT,litOk,k4] using hp1⟩
 have e1:(k==1)=false:=by simpa using k1
 have e2:(k==2)=false:=by simpa using k2
 have e3:(k==3)=false:=by simpa using k3
 have e4:(k==4)=false:=by simpa using k4
 simp (disch:=first | assumption | exact .symm ‹_› | omega) only [fu28,↓ZD,ZW,simprocAttr]
 refine NewB.of fun b3 hb3 hF3=>?_
 simp (disch:=first | assumption | exact .symm ‹_› | omega) only [hF3,e1,e2,e3,e4,↓ZD,ZW,simprocAttr]
 refine CallE.wr [(b3,.cells #[.int .i64 k,.bool bo,.int .i64 n,.string (bs tx),.string (bs ty),.string (bs id),u1,u2] 28 (0,0))] H0 (must_wr _ b s0 bad false) hp (by simp +contextual) (by simp) (by simpa using hb3) ?_
 intro H1 hp1 hd1
 simp (disch:=first | assumption | exact .symm ‹_› | omega) only [↓ZD,ZW,simprocAttr]
 exact ⟨H1,by simp +contextual,by simpa [litT,litOk,k1,k2,k3,k4] using hp1⟩
def kidsI (op:Int):Int:=if op < 1∨23 < op then 4 else if op≤3 then 0 else if op=6∨op=14∨(16≤op∧op≤18) then 1 else if op=7 then 3 else if op=19∨op=20 then -1 else 2
theorem ops_of (op:Int):op < 1∨op=1∨op=2∨op=3∨op=4∨op=5∨op=6∨op=7∨op=8∨op=9∨op=10∨op=11∨op=12∨op=13∨op=14∨op=15∨op=16∨op=17∨op=18∨op=19∨op=20∨op=21∨op=22∨op=23∨23 < op:=by omega
theorem kids_pure (F:Base) (op:Int):PureV Tryz.prog F 26 #[.int .i64 op] (.int .i64 (kidsI op)):=by
 refine pureV_of_svc mixed Tryz.func26 low26 (Nat.le_of_ble_eq_true rfl) (fun w0=>?_)
 simp (disch:=first | assumption | exact .symm ‹_› | omega) only [fu26,↓ZD,ZW,simprocAttr]
 simp only [Value.int.injEq,true_and]
 unfold kidsI
 rcases ops_of op with ho | rfl | rfl | rfl | rfl | rfl | rfl | rfl | rfl | rfl | rfl | rfl | rfl | rfl | rfl | rfl | rfl | rfl | rfl | rfl | rfl | rfl | rfl | rfl | ho
 ·simp only [decide_eq_true_eq,decide_eq_false_iff_not,Bool.or_eq_true,Bool.and_eq_true,Bool.or_eq_false_iff,Bool.and_eq_false_iff,beq_iff_eq,beq_eq_false_iff_ne]
  rw [if_pos (.inl ho)]
  omega
 all_goals first | decide | skip
 ·simp only [decide_eq_true_eq,decide_eq_false_iff_not,Bool.or_eq_true,Bool.and_eq_true,Bool.or_eq_false_iff,Bool.and_eq_false_iff,beq_iff_eq,beq_eq_false_iff_ne]
  rw [if_pos (.inr ho)]
  omega
theorem quote_len (s:Str):(quote s).length≤4 * s.length+2:=by
 have key:(s.flatMap q1).length≤4 * s.length:=by
  induction s with
  | nil=>simp
  | cons c s ih=>
   have:=q1_len c
   simp only [List.flatMap_cons,List.length_append,List.length_cons];omega
 unfold quote
 simp only [List.length_cons,List.length_append,List.length_nil]
 omega
def signT (op:Int):Str:=if op=4 then [32,38,38,32] else if op=5 then [32,124,124,32] else if op=8 then [32,61,61,32] else if op=9 then [32,60,32] else if op=10 then [32,60,61,32] else if op=11 then [32,43,32] else if op=12 then [32,45,32] else if op=13 then [32,42,32] else if op=15 then [32,105,110,32] else []
def isTwo (op:Int):Bool:=op==4||op==5||op==8||op==9||op==10||op==11||op==12||op==13||op==15
def methT (op:Int):Str:=if op=21 then [46,99,111,110,116,97,105,110,115,40] else if op=22 then [46,99,111,110,116,97,105,110,115,65,108,108,40] else if op=23 then [46,99,111,110,116,97,105,110,115,65,110,121,40] else []
def arOk (op:Int) (nk nn:Nat):Bool:=!(decide (3 < kidsI op)||(decide (0≤kidsI op)&&((nk:Int) != kidsI op)))&&!(op==20&&((nn:Int) != (nk:Int)))
def own1 (o:Int) (t:Str):Str:=if o=6∨o=14 then 40::(t++[41]) else t
def rowT (ahead:Nat→Str):Nat→List Str→Str
 | _,[]=>[]
 | i,t::r=>(if 0 < i then [44,32] else [])++(ahead i++(t++rowT ahead (i+1) r))
def nodeT (op:Int) (v:LV) (nm:Str) (names:List Str) (os:List Int) (ks:List Str):Str:=
 if op=1 then litT v else if op=2 then nm else if op=3 then 63::nm
 else if isTwo op then 40::(ks.getD 0 []++(signT op++(ks.getD 1 []++[41])))
 else if op=6 then 33::ks.getD 0 [] else if op=14 then 45::ks.getD 0 []
 else if op=7 then [40,105,102,32]++(ks.getD 0 []++([32,116,104,101,110,32]++(ks.getD 1 []++([32,101,108,115,101,32]++(ks.getD 2 []++[41])))))
 else if op=16 then 40::(ks.getD 0 []++([32,105,115,32]++(nm++[41])))
 else if op=17 then 40::(ks.getD 0 []++([32,104,97,115,32]++(nm++[41])))
 else if op=18 then own1 (os.getD 0 0) (ks.getD 0 [])++(if nameB nm then 46::nm else 91::(quote nm++[93]))
 else if op=19 then 91::(rowT (fun _=>[]) 0 ks++[93])
 else if op=20 then 123::(rowT (fun i=>quote (names.getD i [])++[58,32]) 0 ks++[125])
 else own1 (os.getD 0 0) (ks.getD 0 [])++(methT op++(ks.getD 1 []++[41]))
def nodeOk (op:Int) (v:LV) (nm:Str):Bool:=
 if op=1 then litOk v else if op=2 then decide (nm∈varL) else if op=3 then decide (nm∈slotL) else if op=16 then okPath nm else if op=17 then nameB nm else true
mutual
def pt:Ex'→Str
 | .mk op v nm kids names=>if arOk op kids.length names.length then nodeT op v nm names (kids.map Ex'.op) (ptL kids) else []
def ptL:List Ex'→List Str
 | []=>[]
 | x::l=>pt x::ptL l
end
mutual
def okX:Ex'→Bool
 | .mk op v nm kids names=>arOk op kids.length names.length&&(okL kids&&nodeOk op v nm)
def okL:List Ex'→Bool
 | []=>true
 | x::l=>okX x&&okL l
end
mutual
def wt:Ex'→Nat
 | .mk _ v nm kids names=>12+(v.tx.length+v.ty.length+v.id.length+nm.length)+wtL kids+(names.map fun x=>x.length+1).sum
def wtL:List Ex'→Nat
 | []=>0
 | x::l=>wt x+wtL l
end
theorem ptL_get:∀ {l:List Ex'} {i:Nat} {x:Ex'},l[i]?=some x→(ptL l)[i]?=some (pt x)
 | y::l,0,x,h=>by simp only [List.getElem?_cons_zero,Option.some.injEq] at h;subst h;simp [ptL]
 | y::l,i+1,x,h=>by rw [ptL,List.getElem?_cons_succ];exact ptL_get (by simpa using h)
theorem ptL_len:∀ l:List Ex',(ptL l).length=l.length
 | []=>rfl
 | x::l=>by rw [ptL,List.length_cons,List.length_cons,ptL_len l]
theorem wtL_mem:∀ {l:List Ex'} {i:Nat} {x:Ex'},l[i]?=some x→wt x≤wtL l
 | y::l,0,x,h=>by simp only [List.getElem?_cons_zero,Option.some.injEq] at h;subst h;rw [wtL];omega
 | y::l,i+1,x,h=>by rw [wtL];have:=wtL_mem (l:=l) (i:=i) (x:=x) (by simpa using h);omega
theorem wt_pos:∀ x:Ex',12≤wt x
 | .mk ..=>by rw [wt];omega
def lenS:List Str→Nat
 | []=>0
 | x::l=>x.length+lenS l
theorem get3_lenS (l:List Str):(l.getD 0 []).length+((l.getD 1 []).length+(l.getD 2 []).length)≤lenS l:=by
 match l with
 | []=>simp
 | [a]=>simp [lenS]
 | [a,b]=>simp [lenS]
 | a::b::c::r=>simp only [List.getD_cons_zero,List.getD_cons_succ,lenS];omega
theorem rowT_len (ahead:Nat→Str) (A:Nat→Nat) (hA:∀ i,(ahead i).length≤A i):∀ (l:List Str) (i:Nat),(rowT ahead i l).length≤lenS l+2 * l.length+((List.range l.length).map fun k=>A (i+k)).sum
 | [],i=>by simp [rowT]
 | t::r,i=>by
  have ih:=rowT_len ahead A hA r (i+1)
  have h0:=hA i
  have e:((List.range (t::r).length).map fun k=>A (i+k)).sum=A i+((List.range r.length).map fun k=>A (i+1+k)).sum:=by
   rw [List.length_cons,List.range_succ_eq_map,List.map_cons,List.sum_cons,List.map_map]
   congr 2
   apply List.map_congr_left
   intro k _
   simp only [Function.comp]
   congr 1;omega
  rw [e]
  simp only [rowT,List.length_append,lenS,List.length_cons]
  split <;> simp only [List.length_cons,List.length_nil] <;> omega
theorem litT_len {v:LV} (hn:I64 v.n):(litT v).length≤21+4 * (v.tx.length+v.ty.length+v.id.length):=by
 have h1:=showsT_len hn
 have h2:=quote_len v.tx
 have h3:=quote_len v.id
 unfold litT
 repeat' split
 all_goals (try unfold uidT cc);(try simp only [List.length_append,List.length_cons,List.length_nil]);omega
theorem own1_len (o:Int) (t:Str):(own1 o t).length≤t.length+2:=by
 unfold own1;split <;> simp
theorem signT_len (op:Int):(signT op).length≤4:=by
 unfold signT;repeat' split
 all_goals simp
theorem methT_len (op:Int):(methT op).length≤13:=by
 unfold methT;repeat' split
 all_goals simp
theorem sum_getD:∀ (names:List Str) (n:Nat),((List.range n).map fun k=>4 * (names.getD k []).length+4).sum≤4 * (names.map fun x=>x.length+1).sum+4 * n
 | names,0=>by simp
 | [],n+1=>by
  have:=sum_getD [] n
  rw [List.range_succ,List.map_append,List.sum_append]
  simp at this ⊢
  omega
 | x::r,n+1=>by
  have:=sum_getD r n
  rw [List.range_succ_eq_map,List.map_cons,List.sum_cons,List.map_map]
  simp only [List.getD_cons_zero,List.map_cons,List.sum_cons]
  have e:((List.range n).map ((fun k=>4 * ((x::r).getD k []).length+4)∘Nat.succ))=(List.range n).map fun k=>4 * (r.getD k []).length+4:=by
   apply List.map_congr_left;intro k _;simp
  rw [e];omega
theorem nodeT_len (op:Int) {v:LV} (hn:I64 v.n) (nm:Str) (names:List Str) (os:List Int) (ks:List Str) :
  (nodeT op v nm names os ks).length≤lenS ks+4 * (v.tx.length+v.ty.length+v.id.length+nm.length)+4 * (names.map fun x=>x.length+1).sum+6 * ks.length+30:=by
 have h1:=litT_len hn
 have h2:=quote_len nm
 have h3:=get3_lenS ks
 have h4:=signT_len op
 have h5:=methT_len op
 have h6:=own1_len (os.getD 0 0) (ks.getD 0 [])
 have h7:=rowT_len (fun _=>[]) (fun _=>0) (fun _=>by simp) ks 0
 have h8:=rowT_len (fun i=>quote (names.getD i [])++[58,32]) (fun i=>4 * (names.getD i []).length+4) (fun i=>by have:=quote_len (names.getD i []);simp only [List.length_append,List.length_cons,List.length_nil];omega) ks 0
 have h9:=sum_getD names ks.length
 have h10:((List.range ks.length).map fun _=>0).sum=0:=by
  generalize List.range ks.length=L
  induction L with
  | nil=>rfl
  | cons _ _ ih=>simpa using ih
 rw [h10] at h7
 simp only [Nat.zero_add] at h8
 unfold nodeT
 by_cases c0:op=1
 ·rw [if_pos c0];(try simp only [List.length_append,List.length_cons,List.length_nil]);omega
 rw [if_neg c0]
 by_cases c1:op=2
 ·rw [if_pos c1];(try simp only [List.length_append,List.length_cons,List.length_nil]);omega
 rw [if_neg c1]
 by_cases c2:op=3
 ·rw [if_pos c2];(try simp only [List.length_append,List.length_cons,List.length_nil]);omega
 rw [if_neg c2]
 by_cases c3:isTwo op=true
 ·rw [if_pos c3];(try simp only [List.length_append,List.length_cons,List.length_nil]);omega
 rw [if_neg c3]
 by_cases c4:op=6
 ·rw [if_pos c4];(try simp only [List.length_append,List.length_cons,List.length_nil]);omega
 rw [if_neg c4]
 by_cases c5:op=14
 ·rw [if_pos c5];(try simp only [List.length_append,List.length_cons,List.length_nil]);omega
 rw [if_neg c5]
 by_cases c6:op=7
 ·rw [if_pos c6];(try simp only [List.length_append,List.length_cons,List.length_nil]);omega
 rw [if_neg c6]
 by_cases c7:op=16
 ·rw [if_pos c7];(try simp only [List.length_append,List.length_cons,List.length_nil]);omega
 rw [if_neg c7]
 by_cases c8:op=17
 ·rw [if_pos c8];(try simp only [List.length_append,List.length_cons,List.length_nil]);omega
 rw [if_neg c8]
 by_cases c18:op=18
 ·rw [if_pos c18]
  by_cases cn:nameB nm=true
  ·rw [if_pos cn];simp only [List.length_append,List.length_cons,List.length_nil];omega
  ·rw [if_neg cn];simp only [List.length_append,List.length_cons,List.length_nil];omega
 rw [if_neg c18]
 by_cases c19:op=19
 ·rw [if_pos c19];(try simp only [List.length_append,List.length_cons,List.length_nil]);omega
 rw [if_neg c19]
 by_cases c20:op=20
 ·rw [if_pos c20];(try simp only [List.length_append,List.length_cons,List.length_nil]);omega
 rw [if_neg c20]
 simp only [List.length_append,List.length_cons,List.length_nil];omega
theorem lenS_le:∀ {l:List Ex'},(∀ (i:Nat) (t:Ex'),l[i]?=some t→(pt t).length+6≤30 * wt t)→lenS (ptL l)+6 * l.length≤30 * wtL l
 | [],_=>by simp [ptL,lenS,wtL]
 | x::l,h=>by
  have h1:=h 0 x (by simp)
  have h2:=lenS_le (l:=l) fun i t ht=>h (i+1) t (by simpa using ht)
  simp only [ptL,lenS,wtL,List.length_cons];omega
theorem pt_len {F:Base} {cs:List Value} {e:Ex'} (h:RepX F cs e):(pt e).length+6≤30 * wt e:=by
 induction h with
 | mk op v u1 u2 nm a1 c1 kids g1 vn names hu hop hk hn hl1 hc1 h1 r1 hN i1=>
  have k1:=lenS_le i1
  have k2:=nodeT_len op hn nm names (kids.map Ex'.op) (ptL kids)
  rw [ptL_len] at k2
  rw [pt,wt]
  split
  ·omega
  ·simp;omega
section
variable {H:Type} {enc:TypeId×Value→H}
variable {w:World} {spare:Nat→Bool} {held:Bool}
end
theorem len2 {α:Type} {l:List α} (h:l.length=2):∃ a b,l=[a,b]:=by
 match l,h with | [a,b],_=>exact ⟨_,_,rfl⟩
section
variable {H:Type} {enc:TypeId×Value→H} {w:World} {spare:Nat→Bool} {held:Bool}
end
mutual
theorem depX_wt:∀ x:Ex',depX x≤wt x
 | .mk op v nm kids names=>by rw [depX,wt];have:=depXL_wt kids;omega
theorem depXL_wt:∀ l:List Ex',depXL l≤wtL l
 | []=>by simp [depXL]
 | x::l=>by rw [depXL,wtL];have:=depX_wt x;have:=depXL_wt l;omega
end
theorem depT_pure (F:Base) {cs:List Value} {e:Ex'} (h:RepX F cs e):wt e≤1048576→PureV Tryz.prog F 16 #[.agg cs.toArray] (.int .i64 (depX e)):=by
 induction h with
 | mk op v u1 u2 nm a1 c1 kids g1 vn names hu hop hk hn hl1 hc1 h1 r1 hN i1=>
  intro hw
  obtain ⟨an,cn,rfl,hcn,-⟩:=hN
  rw [wt] at hw
  have hdw:=depXL_wt kids
  refine pureV_of_svc mixed Tryz.func16 low16 (Nat.le_of_ble_eq_true rfl) (fun w0=>?_)
  unfold xcells
  simp (disch:=first | assumption | exact .symm ‹_› | omega) only [fu16,↓ZD,ZW,simprocAttr]
  refine NewB.of fun b1 hb1 hF1=>?_
  rw [depX]
  simp (disch:=first | assumption | exact .symm ‹_› | omega) only [hF1,↓ZD,ZW,simprocAttr]
  refine LoopL.inv (α:=Nat) (fun i=>i≤kids.length)
   (fun i=>[(1,some (.pointer (some ⟨b1,0,none⟩))),(3,some (.int .i64 (depXL (kids.take i)))),(7,some (.slice a1 kids.length c1)),(8,some (.int .i64 kids.length)),(9,some (.int .i64 i))])
   (fun i=>[]) (fun i=>kids.length - i) 0 (Nat.zero_le _) ?_ ?_ ?_
  ·simp only [Le_nil,Le_cons,List.take_zero,depXL]
   simp (disch:=first | assumption | exact .symm ‹_› | omega) only [↓ZD,ZW,simprocAttr]
   first | done | rfl
  ·trivial
  ·rintro i hi
   have hdt:=depXL_take (l:=kids) i
   by_cases hlt:i < kids.length
   ·have hd:decide ((i:Int) < (kids.length:Int))=true:=by simp;omega
    have gx:=getX hlt
    have hm:=wtL_mem gx
    have hc:=i1 i _ gx (by omega)
    obtain ⟨q1,q2,q3,q4,q5,q6,q7,q8,q9,q10,q11,q12,q13,q14,q15,q16,q17,q18,q19,q20,e1⟩:=(r1 i _ gx).form
    obtain ⟨ba,oa,rfl,hla⟩:=(h1 i _ gx).ldn
    rw [e1] at hc hla
    have hs:=depXL_snoc gx
    have hm2:=depXL_mem gx
    simp (disch:=first | assumption | exact .symm ‹_› | omega) only [hF1,hd,↓ZD,ZW,simprocAttr]
    refine conj.of (by omega) ?_
    simp (disch:=first | assumption | exact .symm ‹_› | omega) only [hF1,hd,Int.toNat_natCast,↓hla,↓ZD,ZW,simprocAttr]
    refine NewB.of fun b2 hb2 hF2=>?_
    simp (disch:=first | assumption | exact .symm ‹_› | omega) only [hF2,↓ZD,ZW,simprocAttr]
    refine CallE.pure hc ?_
    simp (disch:=first | assumption | exact .symm ‹_› | omega) only [hF2,↓ZD,ZW,simprocAttr]
    refine invK.on (i+1) (by omega) (by omega) ?_ trivial
    simp only [Le_nil,Le_cons,hs]
    simp (disch:=first | assumption | exact .symm ‹_› | omega) only [↓ZD,ZW,simprocAttr]
    refine ⟨?_,rfl⟩
    congr 2
    split <;> omega
   ·have hd:decide ((kids.length:Int) < (kids.length:Int))=false:=by simp
    obtain rfl:i=kids.length:=by omega
    rw [List.take_length]
    simp (disch:=first | assumption | exact .symm ‹_› | omega) only [hF1,hd,↓ZD,ZW,simprocAttr]
    rfl
theorem rowT_snoc (ahead:Nat→Str) (t:Str):∀ (l:List Str) (j:Nat),rowT ahead j (l++[t])=rowT ahead j l++((if 0 < j+l.length then [44,32] else [])++(ahead (j+l.length)++t))
 | [],j=>by simp [rowT]
 | x::l,j=>by
  rw [List.cons_append,rowT,rowT,rowT_snoc ahead t l (j+1)]
  simp only [List.append_assoc,List.length_cons]
  rw [show j+1+l.length=j+(l.length+1) by omega]
theorem rowT_take (ahead:Nat→Str) {l:List Str} {i:Nat} {t:Str} (h:l[i]?=some t):rowT ahead 0 (l.take (i+1))=rowT ahead 0 (l.take i)++((if 0 < i then [44,32] else [])++(ahead i++t)):=by
 have hi:i < l.length:=(List.getElem?_eq_some_iff.mp h).1
 rw [take_snoc h,rowT_snoc,List.length_take,Nat.min_eq_left (by omega),Nat.zero_add]
theorem rowT_app (ahead:Nat→Str):∀ (l m:List Str) (j:Nat),rowT ahead j (l++m)=rowT ahead j l++rowT ahead (j+l.length) m
 | [],m,j=>by simp [rowT]
 | x::l,m,j=>by
  rw [List.cons_append,rowT,rowT,rowT_app ahead l m (j+1)]
  simp only [List.append_assoc,List.length_cons]
  rw [show j+1+l.length=j+(l.length+1) by omega]
theorem rowT_take_le (ahead:Nat→Str) (l:List Str) (i:Nat):(rowT ahead 0 (l.take i)).length≤(rowT ahead 0 l).length:=by
 have e:=rowT_app ahead (l.take i) (l.drop i) 0
 rw [List.take_append_drop] at e
 rw [e,List.length_append];omega
def ahN (names:List Str) (i:Nat):Str:=quote (names.getD i [])++[58,32]
def ahQ (_:Nat):Str:=[]
end Go.Proofs.YtoelfmmfjebabaaGreatDoor
