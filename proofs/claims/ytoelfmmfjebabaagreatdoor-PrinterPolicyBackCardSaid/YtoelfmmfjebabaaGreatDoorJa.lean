/- Joined. -/
import Derived.Test.YtoelfmmfjebabaaGreatDoorLow
import Derived.Test.YtoelfmmfjebabaaGreatDoorEng16
import Derived.Test.YtoelfmmfjebabaaGreatDoorShelf
import Derived.Shelf.Strings.Builder1
set_option linter.unusedSectionVars false
namespace Go.Proofs.YtoelfmmfjebabaaGreatDoor
open Go Go.Eng
set_option maxHeartbeats 1000000
set_option linter.unusedSimpArgs false
set_option linter.unusedVariables false
set_option maxRecDepth 20000
def isD (c:UInt8):Bool:=decide ((48:Int)≤c.toNat)&&decide ((c.toNat:Int)≤57)
def isL (c:UInt8):Bool:=decide ((97:Int)≤c.toNat)&&decide ((c.toNat:Int)≤122)||decide ((65:Int)≤c.toNat)&&decide ((c.toNat:Int)≤90)||((c.toNat:Int)==95)
def isP (c:UInt8):Bool:=decide ((32:Int)≤c.toNat)&&decide ((c.toNat:Int)≤126)&&((c.toNat:Int) != 34)&&((c.toNat:Int) != 92)
def isLD (c:UInt8):Bool:=isL c||isD c
def nameB:List UInt8→Bool
 | []=>false
 | c::r=>isL c&&r.all isLD
theorem isLD_of {c:UInt8} (h:isL c=true):isLD c=true:=by simp [isLD,h]
theorem isL_notD {c:UInt8} (h:isL c=true):isD c=false:=by
 simp only [isL,isD,Bool.or_eq_true,Bool.and_eq_true,decide_eq_true_eq,beq_iff_eq,Bool.and_eq_false_iff,decide_eq_false_iff_not] at h ⊢
 omega
theorem nameB_all {s:List UInt8}:nameB s=(!s.isEmpty&&!isD (s.getD 0 0)&&s.all isLD):=by
 cases s with
 | nil=>rfl
 | cons c r=>
  simp only [nameB,List.isEmpty_cons,Bool.not_false,Bool.true_and,List.getD_cons_zero,List.all_cons]
  cases h:isL c with
  | true=>simp [isLD,h,isL_notD h]
  | false=>cases h2:isD c <;> simp [isLD,h,h2]
theorem getD_get {s:List UInt8} {i:Nat} (h:i < s.length):s[i]?=some (s.getD i 0):=by
 rw [List.getD_eq_getElem?_getD,List.getElem?_eq_getElem h];rfl
theorem all_not {p:UInt8→Bool} {s:List UInt8} {i:Nat} (h:i < s.length) (hp:p (s.getD i 0)=false):s.all p=false:=by
 rw [List.all_eq_false];exact ⟨_,List.mem_of_getElem? (getD_get h),by rw [hp];simp⟩
theorem take_snocB {s:List UInt8} {i:Nat} (h:i < s.length):s.take (i+1)=s.take i++[s.getD i 0]:=by
 rw [List.take_succ_eq_append_getElem h];congr;simp [h]
theorem all_snoc {p:UInt8→Bool} {s:List UInt8} {i:Nat} (h:i < s.length):(s.take (i+1)).all p=((s.take i).all p&&p (s.getD i 0)):=by
 rw [take_snocB h,List.all_append];simp
theorem nameB_snoc {l:List UInt8} {x:UInt8} (h:nameB l=true):nameB (l++[x])=isLD x:=by
 cases l with
 | nil=>cases h
 | cons c r=>
  simp only [nameB,List.cons_append,List.all_append,Bool.and_eq_true] at h ⊢
  rw [h.1,h.2];simp
theorem nameB_bad {s:List UInt8} {i:Nat} (h:i < s.length) (h1:isL (s.getD i 0)=false) (h2:i=0∨isD (s.getD i 0)=false):nameB s=false:=by
 rcases h2 with rfl | h2
 ·cases s with
  | nil=>rfl
  | cons c r=>rw [List.getD_cons_zero] at h1;simp [nameB,h1]
 ·rw [nameB_all,all_not (p:=isLD) h (by simp only [isLD,h1,h2];rfl),Bool.and_false]
theorem nameB_next {s:List UInt8} {i:Nat} (h:i < s.length) (ha:i=0∨nameB (s.take i)=true) (hc:isL (s.getD i 0)=true∨(i≠0∧isD (s.getD i 0)=true)):nameB (s.take (i+1))=true:=by
 rw [take_snocB h]
 rcases ha with rfl | ha
 ·rcases hc with hc | hc
  ·rw [List.take_zero,List.nil_append,nameB,hc];rfl
  ·exact absurd rfl hc.1
 ·rw [nameB_snoc ha,isLD]
  rcases hc with hc | hc
  ·rw [hc];rfl
  ·rw [hc.2,Bool.or_true]
theorem letter_pure (F:Base) (c:UInt8):PureV Tryz.prog F 63 #[.int .u8 c.toNat] (.bool (isL c)):=by
 refine pureV_of_svc mixed Tryz.func63 low63 (Nat.le_of_ble_eq_true rfl) (fun w0=>?_)
 simp only [fu63,↓ZD,ZW,simprocAttr]
 rfl
theorem digit_pure (F:Base) (c:UInt8):PureV Tryz.prog F 64 #[.int .u8 c.toNat] (.bool (isD c)):=by
 refine pureV_of_svc mixed Tryz.func64 low64 (Nat.le_of_ble_eq_true rfl) (fun w0=>?_)
 simp only [fu64,↓ZD,ZW,simprocAttr]
 rfl
theorem plain_pure (F:Base) (c:UInt8):PureV Tryz.prog F 90 #[.int .u8 c.toNat] (.bool (isP c)):=by
 refine pureV_of_svc mixed Tryz.func90 low90 (Nat.le_of_ble_eq_true rfl) (fun w0=>?_)
 simp only [fu90,↓ZD,ZW,simprocAttr]
 rfl
theorem name_pure (F:Base) (s:List UInt8) (hs:s.length≤9223372036854775807):PureV Tryz.prog F 32 #[.string (bs s)] (.bool (nameB s)):=by
 refine pureV_of_svc mixed Tryz.func32 low32 (Nat.le_of_ble_eq_true rfl) (fun w0=>?_)
 simp only [fu32,↓ZD,ZW,simprocAttr]
 refine LoopL.inv (α:=Nat) (fun i=>i≤s.length∧(i=0∨nameB (s.take i)=true))
  (fun i=>[(0,some (.string (bs s))),(5,some (.int .i64 s.length)),(6,some (.int .i64 i))]) (fun i=>[]) (fun i=>s.length - i) 0 ⟨Nat.zero_le _,.inl rfl⟩ ?_ ?_ ?_
 ·simp only [Le_nil,Le_cons]
  simp only [↓ZD,ZW,simprocAttr]
 ·simp only [HLe_nil]
 ·rintro i ⟨hi,ha⟩
  by_cases hlt:i < s.length
  ·have hd:decide ((i:Int) < (s.length:Int))=true:=by simp;omega
   simp only [hd,Int.toNat_natCast,↓ZD,ZW,simprocAttr]
   refine conj.of (by omega) ?_
   simp only [hd,Int.toNat_natCast,↓ZD,ZW,simprocAttr]
   refine CallE.pure (letter_pure F _) ?_
   simp only [hd,Int.toNat_natCast,↓ZD,ZW,simprocAttr]
   refine conj.of (fun _=>by omega) ?_
   simp only [hd,Int.toNat_natCast,↓ZD,ZW,simprocAttr]
   refine CallQ.of _ (fun _=>(digit_pure F _).up) ?_
   simp only [hd,Int.toNat_natCast,↓ZD,ZW,simprocAttr]
   refine ⟨fun hc=>?_,fun hc=>?_⟩
   ·simp only [Bool.and_eq_true,Bool.or_eq_true,Bool.not_eq_true',beq_iff_eq] at hc
    have h2:i=0∨isD (s.getD i 0)=false:=hc.2.imp (fun h=>by omega) id
    rw [nameB_bad hlt hc.1 h2]
   ·simp only [Bool.and_eq_false_iff,Bool.or_eq_false_iff,Bool.not_eq_false',beq_eq_false_iff_ne] at hc
    have h2:=nameB_next hlt ha (hc.imp id fun h=>⟨by omega,h.2⟩)
    refine invK.on (i+1) (⟨by omega,.inr h2⟩) (by omega) (by (simp (disch:=first | assumption | exact .symm ‹_› | omega) only [↓ZD,ZW,simprocAttr];try trivial)) (by (try (simp (disch:=first | assumption | exact .symm ‹_› | omega) only [↓ZD,ZW,simprocAttr]);try trivial))
  ·have hd:decide ((i:Int) < (s.length:Int))=false:=by simp;omega
   have:i=s.length:=by omega
   subst this
   simp only [hd,↓ZD,ZW,simprocAttr]
   rw [List.take_length] at ha
   rcases ha with ha | ha
   ·rw [List.eq_nil_of_length_eq_zero ha];rfl
   ·rw [ha]
    cases s with
    | nil=>cases ha
    | cons c r=>rfl
def hexL:List UInt8:=[48,49,50,51,52,53,54,55,56,57,97,98,99,100,101,102]
def q1 (c:UInt8):List UInt8:=if isP c then [c] else if ((c.toNat:Int)==34||(c.toNat:Int)==92) then [92,c] else [92,120,hexL.getD (c.toNat / 16) 0,hexL.getD (c.toNat % 16) 0]
def quote (s:List UInt8):List UInt8:=34::(s.flatMap q1++[34])
theorem q1_len (c:UInt8):(q1 c).length≤4:=by
 unfold q1
 split
 ·simp
 ·split <;> simp
theorem flat_len:∀ s:List UInt8,(s.flatMap q1).length≤4 * s.length
 | []=>Nat.le_refl _
 | c::s=>by
  have:=flat_len s
  have:=q1_len c
  simp only [List.flatMap_cons,List.length_append,List.length_cons];omega
theorem u8_lt (c:UInt8):c.toNat < 256:=c.toNat_lt
theorem shr4 (c:UInt8):((c.toNat:Int).fdiv 16)=((c.toNat / 16:Nat):Int):=by
 rw [Int.fdiv_eq_ediv_of_nonneg _ (by decide)];omega
theorem and15 (c:UInt8):(BitVec.ofInt 8 (c.toNat:Int) &&& 15#8).toNat=c.toNat % 16:=by
 revert c
 have:∀ n:Nat,n < 256→(BitVec.ofInt 8 (n:Int) &&& 15#8).toNat=n % 16:=by decide +kernel
 exact fun c=>this _ (u8_lt c)
theorem one_pure (F:Base) (c:UInt8):PureV Tryz.prog F 66 #[.int .u8 c.toNat] (.string (bs (q1 c))):=by
 refine pureV_of_svc mixed Tryz.func66 low66 (Nat.le_of_ble_eq_true rfl) (fun w0=>?_)
 simp only [fu66,↓ZD,ZW,simprocAttr]
 refine CallE.pure (plain_pure F c) ?_
 simp only [↓ZD,ZW,simprocAttr]
 unfold q1
 refine ⟨fun hp=>?_,fun hp=>⟨fun hq=>?_,fun hq=>?_⟩⟩
 ·refine NewB.of fun b1 hb1 hF1=>?_
  simp only [hF1,hp,↓ZD,ZW,simprocAttr]
 ·refine NewB.of fun b1 hb1 hF1=>?_
  simp only [hF1,hp,hq,↓ZD,ZW,simprocAttr]
 ·rw [shr4]
  have h1:=u8_lt c
  refine conj.of (by omega) ?_
  simp (disch:=first | assumption | exact .symm ‹_› | omega) only [and15,↓ZD,ZW,simprocAttr]
  refine conj.of (by omega) ?_
  simp only [↓ZD,ZW,simprocAttr]
  refine NewB.of fun b1 hb1 hF1=>?_
  simp only [hF1,hp,hq,Int.toNat_natCast,↓ZD,ZW,simprocAttr]
  rfl
theorem flat_snoc {s:List UInt8} {i:Nat} (h:i < s.length):(s.take (i+1)).flatMap q1=(s.take i).flatMap q1++q1 (s.getD i 0):=by
 rw [take_snocB h,List.flatMap_append];simp
theorem bi_size:(Tryz.prog.info? 64).map (·.size)=some 2:=by kernel_rfl
theorem bi_lies:liesAt Tryz.prog Tryz.prog.depth 64 (2 / Tryz.prog.cellsOf 64) 0 64 1=true:=by kernel_rfl
section
open Go.Proofs Go.Shelf Go.RowKit
set_option maxHeartbeats 1000000 in
theorem check_used (b:Nat) (w:World) (h0:w.cell? ⟨b,0,none⟩=some (.pointer (some ⟨b,0,none⟩))) :
  Calls Tryz.prog 87 #[.pointer (some ⟨b,0,none⟩)] w fun e w'=>e=.returned (.tuple #[])∧w'=w:=by
 obtain ⟨j,hj,_⟩:=Option.map_eq_some_iff.1 bi_size
 go_enter Tryz.func87,Tryz.ntmps87
 go_wp2
 rw [Lib.run_neq_ptr_same w _ Tryz.underlying61 hj]
 go_wp2
 go_end0
 exact ⟨rfl,rfl⟩
set_option maxHeartbeats 1000000 in
theorem check_fresh (b:Nat) (w:World) (h0:w.cell? ⟨b,0,none⟩=some (.pointer none)) (hsh:w.shape? b=some (64,2)) (hfz:w.frozen? ⟨b,0,none⟩=false) :
  Calls Tryz.prog 87 #[.pointer (some ⟨b,0,none⟩)] w fun e w'=>e=.returned (.tuple #[])∧w'=w.setCell ⟨b,0,none⟩ (.pointer (some ⟨b,0,none⟩)):=by
 obtain ⟨j,hj,hjs⟩:=Option.map_eq_some_iff.1 bi_size
 go_enter Tryz.func87,Tryz.ntmps87
 go_wp2
 rw [Lib.run_to_unsafe w ⟨b,0,none⟩ Tryz.underlying61 Tryz.underlying147 hj (by rw [hjs];decide) hsh (Nat.zero_lt_succ 1)]
 simp only [Result.andThen]
 rw [Oper.upon_value]
 go_wp2
 rw [run_callFunc_extern Tryz.func99 (by kernel_rfl) (by kernel_rfl) (by kernel_rfl) (e:=Extern.AbiNoEscape.same) (by kernel_rfl)]
 rw [Lib.run_noEscape]
 simp only [Result.andThen]
 rw [Oper.upon_value]
 go_wp2
 rw [Lib.run_from_unsafe w ⟨b,0,none⟩ Tryz.underlying147 Tryz.underlying61 hj hsh bi_lies]
 simp only [Result.andThen]
 rw [Oper.upon_value]
 go_wp2
 go_end0
 exact ⟨rfl,rfl⟩
end
abbrev BuiO (p v:Value):Obj:=.cells #[p,v] 64 (0,0)
theorem check_does (F:Base) (b:Nat) (p v:Value) (Ho:Hp) (hp:p=.pointer none∨p=.pointer (some ⟨b,0,none⟩)) (hd:∀ e∈Ho,e.1≠b) :
  Does Tryz.prog F 87 #[.pointer (some ⟨b,0,none⟩)] ((b,BuiO p v)::Ho) (fun r H'=>r=.tuple #[]∧H'=(b,BuiO (.pointer (some ⟨b,0,none⟩)) v)::Ho):=by
 intro w1 hw1 w hs
 have hb:=hs.own _ List.mem_cons_self
 have hc:w.cell? ⟨b,0,none⟩=some p:=by simp [World.cell?,hb]
 rcases hp with rfl | rfl
 ·refine (check_fresh b w hc (by simp [World.shape?,hb]) (by simp [World.frozen?,hb])).mono ?_
  rintro e w' ⟨rfl,rfl⟩
  refine ⟨_,_,rfl,?_,rfl,rfl⟩
  have:=hs.put (b:=b) (o:=BuiO (.pointer (some ⟨b,0,none⟩)) v) (w':=w.setCell ⟨b,0,none⟩ (.pointer (some ⟨b,0,none⟩))) ⟨_,List.mem_cons_self⟩ rfl rfl rfl (by simp [World.setCell,Array.getElem?_modify,hb]) (by simp [World.setCell]) (fun k hk=>by simp only [World.setCell,Array.getElem?_modify];rw [if_neg (fun e=>hk e.symm)])
  rw [upd_eq,upd_new hd] at this
  exact this
 ·refine (check_used b w hc).mono ?_
  rintro e w' ⟨rfl,rfl⟩
  exact ⟨_,_,rfl,hs,rfl,rfl⟩
def BuiPost (F:Base) (b:Nat) (l:List UInt8) (H':Hp):Prop:=∃ v Ho,OwnS F 1 5 (byteCells l) l.length v Ho∧(∀ e∈Ho,e.1≠b)∧H'=(b,BuiO (.pointer (some ⟨b,0,none⟩)) v)::Ho
theorem wbyte_does (F:Base) (b:Nat) (p v:Value) (Ho:Hp) (l:List UInt8) (c:UInt8) (hp:p=.pointer none∨p=.pointer (some ⟨b,0,none⟩)) (hb:F b=none) (hd:∀ e∈Ho,e.1≠b)
  (ho:OwnS F 1 5 (byteCells l) l.length v Ho) (hl:l.length≤100000000000000) :
  Does Tryz.prog F 65 #[.pointer (some ⟨b,0,none⟩),.int .u8 c.toNat] ((b,BuiO p v)::Ho) (fun r H'=>r=.nilIface∧BuiPost F b (l++[c]) H'):=by
 refine Does.shr (K:=fun r H'=>r=.nilIface∧∃ v' Ho',OwnS F 1 5 (byteCells (l++[c])) (l++[c]).length v' Ho'∧(∀ e∈Ho',e.1≠b)∧∀ e∈(b,BuiO (.pointer (some ⟨b,0,none⟩)) v')::Ho',e∈H') ?_ (fun r H' ⟨h1,v',Ho',h2,h3,h4⟩=>⟨_,h4,h1,v',Ho',h2,h3,rfl⟩)
 refine does_of_svc mixed Tryz.func65 low65 (Nat.le_of_ble_eq_true rfl) (fun w0 hw0=>?_)
 simp (disch:=first | assumption | exact .symm ‹_› | omega) only [fu65,↓ZD,ZW,simprocAttr]
 refine CallE.does ((b,BuiO p v)::Ho) [] (check_does F b p v Ho hp hd) (fun _ _ h=>by simp [rdObj,h]) (fun e h=>h) (fun e h=>by cases h) (fun e h=>by cases h) ?_
 rintro _ _ ⟨rfl,rfl⟩ h1 h2 h3
 simp (disch:=first | assumption | exact .symm ‹_› | omega) only [hb,↓ZD,ZW,simprocAttr]
 refine NewB.of fun b1 hb1 hF1=>?_
 simp only [List.forall_mem_cons] at hb1
 simp (disch:=first | assumption | exact .symm ‹_› | omega) only [hb,hF1,↓ZD,ZW,simprocAttr]
 refine EfL.grow (Hr:=[(b,BuiO (.pointer (some ⟨b,0,none⟩)) v)]) (m:=1) (nw:=[.int .u8 c.toNat]) ho (ho.lk [_,_] (by simp only [List.forall_mem_cons,List.not_mem_nil,false_implies,implies_true,and_true];exact ⟨hb1.2,hd⟩)) (by simp) (by simp only [List.forall_mem_cons,List.not_mem_nil,false_implies,implies_true,and_true];exact hd) ?_ rfl (by simp [oneCell]) (by simp) (by omega) ?_
 ·simp (disch:=first | assumption | exact .symm ‹_› | omega) only [hb,hF1,↓ZD,ZW,simprocAttr]
 intro b2 cap sp hs hc hcm hF2 hne
 simp only [List.forall_mem_cons] at hne
 simp (disch:=first | assumption | exact .symm ‹_› | omega) only [hb,hF2,↓ZD,ZW,simprocAttr]
 refine ⟨_,_,.own b2 cap sp _ _ hF2 (by simp [byteCells]) (by simpa using hs) (by simpa using hc) hcm,by simpa using fun e=>hne.1 e.symm,?_⟩
 simp [byteCells_app,byteCells]
theorem wstr_does (F:Base) (b:Nat) (p v:Value) (Ho:Hp) (l s:List UInt8) (hp:p=.pointer none∨p=.pointer (some ⟨b,0,none⟩)) (hb:F b=none) (hd:∀ e∈Ho,e.1≠b)
  (ho:OwnS F 1 5 (byteCells l) l.length v Ho) (hl:l.length+s.length≤100000000000000) :
  Does Tryz.prog F 60 #[.pointer (some ⟨b,0,none⟩),.string (bs s)] ((b,BuiO p v)::Ho) (fun r H'=>r=.tuple #[.int .i64 s.length,.nilIface]∧BuiPost F b (l++s) H'):=by
 refine Does.shr (K:=fun r H'=>r=.tuple #[.int .i64 s.length,.nilIface]∧∃ v' Ho',OwnS F 1 5 (byteCells (l++s)) (l++s).length v' Ho'∧(∀ e∈Ho',e.1≠b)∧∀ e∈(b,BuiO (.pointer (some ⟨b,0,none⟩)) v')::Ho',e∈H') ?_ (fun r H' ⟨h1,v',Ho',h2,h3,h4⟩=>⟨_,h4,h1,v',Ho',h2,h3,rfl⟩)
 refine does_of_svc mixed Tryz.func60 low60 (Nat.le_of_ble_eq_true rfl) (fun w0 hw0=>?_)
 simp (disch:=first | assumption | exact .symm ‹_› | omega) only [fu60,↓ZD,ZW,simprocAttr]
 refine CallE.does ((b,BuiO p v)::Ho) [] (check_does F b p v Ho hp hd) (fun _ _ h=>by simp [rdObj,h]) (fun e h=>h) (fun e h=>by cases h) (fun e h=>by cases h) ?_
 rintro _ _ ⟨rfl,rfl⟩ h1 h2 h3
 simp (disch:=first | assumption | exact .symm ‹_› | omega) only [hb,↓ZD,ZW,simprocAttr]
 by_cases hs0:s=[]
 ·subst hs0
  obtain ⟨base,cap,rfl,hcap⟩:=ho.len_le
  refine EfL.zero (by rw [rowsOf_str];rfl) hcap ?_
  simp (disch:=first | assumption | exact .symm ‹_› | omega) only [hb,↓ZD,ZW,simprocAttr]
  exact ⟨_,_,by simpa using ho,hd,fun e h=>by rw [upd_new hd];exact h⟩
 ·refine EfL.grow (Hr:=[(b,BuiO (.pointer (some ⟨b,0,none⟩)) v)]) (m:=s.length) (nw:=byteCells s) ho (ho.lk [_] (by simp only [List.forall_mem_cons,List.not_mem_nil,false_implies,implies_true,and_true];exact hd)) (by simp) (by simp only [List.forall_mem_cons,List.not_mem_nil,false_implies,implies_true,and_true];exact hd) rowsOf_str (by simp [byteCells_len]) (by simp [byteCells,oneCell]) (by simpa [byteCells] using hs0) (by omega) ?_
  intro b2 cap sp hs hc hcm hF2 hne
  simp only [List.forall_mem_cons] at hne
  simp (disch:=first | assumption | exact .symm ‹_› | omega) only [hb,hF2,↓ZD,ZW,simprocAttr]
  refine ⟨_,_,.own b2 cap sp _ _ hF2 (by simp [byteCells]) (by simpa using hs) (by simpa using hc) hcm,by simpa using fun e=>hne.1 e.symm,?_⟩
  simp [byteCells_app,byteCells]
theorem bstring_call {F:Base} {w0:World} (hw0:∀ b o,F b=some o→w0.heap[b]?=some o) {H:Hp} {K:Value→Hp→Prop} (b:Nat) (p v:Value) (Ho:Hp) (l:List UInt8) (h1:(b,BuiO p v)∈H) (h2:∀ e∈Ho,e∈H) (hd:∀ e∈Ho,e.1≠b) (hp:p=.pointer none∨p=.pointer (some ⟨b,0,none⟩))
  (ho:OwnS F 1 5 (byteCells l) l.length v Ho) (hk:K (.string (bs l)) []):CallG Tryz.prog [] F w0 18 #[.pointer (some ⟨b,0,none⟩)] H K:=by
 intro w hs
 have hB:∀ e∈H,w0.heap.size≤e.1:=fun e he=>(hs.fresh e he).resolve_left (by simp)
 have hbk:=hs.own _ h1
 have hat:Go.Lib.BuilderAt 64 5 w0.heap.size b p (Go.Lib.byteCells l) w:=by
  have e:(Go.Lib.byteCells l).length=l.length:=by simp [Go.Lib.byteCells]
  refine ⟨hB _ h1,v,hbk,?_⟩
  rw [e]
  rcases ho.out with ⟨h3,h4,rfl,rfl⟩ | ⟨g,cap,sp,rfl,rfl,hF,hl,hs',hc,hcm⟩
  ·exact ⟨⟨by simp [e],.inl ⟨rfl,h4⟩⟩,by simp [Value.ownBlock]⟩
  ·have hg:=hs.own _ (h2 _ (List.mem_singleton.2 rfl))
   have:=hd _ (List.mem_singleton.2 rfl)
   refine ⟨⟨by simp [e],.inr ⟨g,cap,_,rfl,hB _ (h2 _ (List.mem_singleton.2 rfl)),hg,hc,by unfold maxLen;omega,?_,?_⟩⟩,by simpa [Value.ownBlock] using this⟩
   ·simp only [List.size_toArray,List.length_append,hl,hs'];omega
   ·rw [← hl];simp [byteCells,Go.Lib.byteCells]
 have hib:Go.Lib.IsBuilder 64 5 w0.heap.size b (Go.Lib.byteCells l) w:=by
  rcases hp with rfl | rfl
  ·exact .inl hat
  ·exact .inr hat
 refine (Tryz.Builder_String_any w0.heap.size b l w hib hs.size).mono ?_
 rintro e w' ⟨rfl,hbl⟩
 exact ⟨_,[],rfl,⟨hbl.os.trans hs.os,hbl.tape.trans hs.tape,hbl.output.trans hs.output,Nat.le_trans hs.size hbl.size,fun b o hb=>by
  have h0:=hw0 b o hb
  have hlt:b < w0.heap.size:=by
   rcases Nat.lt_or_ge b w0.heap.size with h | h
   ·exact h
   ·rw [Array.getElem?_eq_none h] at h0;cases h0
  rw [hbl.block b hlt];exact hs.base b o hb,by simp,by simp,by simp,fun k hk hX=>(hbl.block k hk).trans (hs.old k hk hX)⟩,hk⟩
theorem quote_pure (F:Base) (s:List UInt8) (hs:s.length≤1000000000000):PureV Tryz.prog F 34 #[.string (bs s)] (.string (bs (quote s))):=by
 refine pureV_of_svcW mixed Tryz.func34 low34 (Nat.le_of_ble_eq_true rfl) (fun w0 hw0=>?_)
 simp (disch:=first | assumption | exact .symm ‹_› | omega) only [fu34,↓ZD,ZW,simprocAttr]
 refine NewB.of fun b hb hF=>?_
 simp (disch:=first | assumption | exact .symm ‹_› | omega) only [hF,↓ZD,ZW,simprocAttr]
 refine CallE.does ((b,BuiO (.pointer none) (.slice none 0 0))::[]) [] (wbyte_does F b (.pointer none) _ [] [] 34 (.inl rfl) hF (by simp) .nil (by simp)) (fun _ _ h=>by simp [rdObj,h]) (fun e h=>h) (fun e h=>by cases h) (fun e h=>by cases h) ?_
 rintro _ _ ⟨rfl,v,Ho,ho,hd,rfl⟩ - - -
 simp (disch:=first | assumption | exact .symm ‹_› | omega) only [hF,↓ZD,ZW,simprocAttr]
 refine LoopL.inv (α:=Nat×Value×Hp) (fun x=>x.1≤s.length∧OwnS F 1 5 (byteCells (34::(s.take x.1).flatMap q1)) (34::(s.take x.1).flatMap q1).length x.2.1 x.2.2∧∀ e∈x.2.2,e.1≠b)
  (fun x=>[(0,some (.string (bs s))),(3,some (.pointer (some ⟨b,0,none⟩))),(7,some (.int .i64 s.length)),(8,some (.int .i64 x.1))])
  (fun x=>(b,BuiO (.pointer (some ⟨b,0,none⟩)) x.2.1)::x.2.2) (fun x=>s.length - x.1) (0,v,Ho) ⟨Nat.zero_le _,ho,hd⟩ (by (simp (disch:=first | assumption | exact .symm ‹_› | omega) only [↓ZD,ZW,simprocAttr];try trivial)) ?_ ?_
 ·refine ⟨lk_eq,ho.hle [_] (by simp only [List.forall_mem_cons,List.not_mem_nil,false_implies,implies_true,and_true];exact hd)⟩
 rintro ⟨i,v,Ho⟩ ⟨hi,ho,hd⟩
 have hlen:=flat_len (s.take i)
 rw [List.length_take] at hlen
 simp only at hi ho hd
 by_cases hlt:i < s.length
 ·have hd2:decide ((i:Int) < (s.length:Int))=true:=by simp;omega
  have hs1:=flat_snoc hlt
  simp (disch:=first | assumption | exact .symm ‹_› | omega) only [hd2,Int.toNat_natCast,↓ZD,ZW,simprocAttr]
  refine conj.of (by omega) ?_
  simp (disch:=first | assumption | exact .symm ‹_› | omega) only [Int.toNat_natCast,↓ZD,ZW,simprocAttr]
  refine CallE.pure (one_pure F _) ?_
  simp (disch:=first | assumption | exact .symm ‹_› | omega) only [↓ZD,ZW,simprocAttr]
  refine CallE.does ((b,BuiO (.pointer (some ⟨b,0,none⟩)) v)::Ho) [] (wstr_does F b _ v Ho _ (q1 (s.getD i 0)) (.inr rfl) hF hd ho (by have:=q1_len (s.getD i 0);simp only [List.length_cons];omega)) (fun _ _ h=>by simp [rdObj,h]) (fun e h=>h) (fun e h=>by cases h) (fun e h=>by cases h) ?_
  rintro _ _ ⟨rfl,v',Ho',ho',hd',rfl⟩ - - -
  simp (disch:=first | assumption | exact .symm ‹_› | omega) only [hF,↓ZD,ZW,simprocAttr]
  rw [List.cons_append,← hs1] at ho'
  refine invK.on (i+1,v',Ho') ⟨by simp only;omega,ho',hd'⟩ (by simp only;omega) (by (simp (disch:=first | assumption | exact .symm ‹_› | omega) only [↓ZD,ZW,simprocAttr];try trivial)) ?_
  exact ⟨lk_eq,ho'.hle [_] (by simp only [List.forall_mem_cons,List.not_mem_nil,false_implies,implies_true,and_true];exact hd')⟩
 ·have hd2:decide ((i:Int) < (s.length:Int))=false:=by simp;omega
  have:i=s.length:=by omega
  subst this
  rw [List.take_length] at ho hlen
  simp (disch:=first | assumption | exact .symm ‹_› | omega) only [hd2,↓ZD,ZW,simprocAttr]
  refine CallE.does ((b,BuiO (.pointer (some ⟨b,0,none⟩)) v)::Ho) [] (wbyte_does F b _ v Ho _ 34 (.inr rfl) hF hd ho (by simp only [List.length_cons];omega)) (fun _ _ h=>by simp [rdObj,h]) (fun e h=>h) (fun e h=>by cases h) (fun e h=>by cases h) ?_
  rintro _ _ ⟨rfl,v',Ho',ho',hd',rfl⟩ - - -
  simp (disch:=first | assumption | exact .symm ‹_› | omega) only [hF,↓ZD,ZW,simprocAttr]
  refine CallE.any (bstring_call hw0 b _ v' Ho' _ List.mem_cons_self (fun e he=>List.mem_cons_of_mem _ he) hd' (.inr rfl) ho' ?_)
  simp (disch:=first | assumption | exact .symm ‹_› | omega) only [hF,↓ZD,ZW,simprocAttr]
  rfl
theorem index_pure (F:Base) (s:List UInt8) (c:UInt8):PureV Tryz.prog F 46 #[.string (bs s),.int .u8 c.toNat] (.int .i64 (Go.Lib.indexByte s c)):=by
 refine PureV.of_same fun w=>(Tryz.strings_IndexByte (bs s) c.toNat w).mono ?_
 rintro e w' ⟨rfl,rfl⟩
 refine ⟨?_,rfl⟩
 have:((c.toNat:Int).toNat).toUInt8=c:=by simp
 rw [this];rfl
def hxI (x y:UInt8):Int:=IntKind.u8.wrap (IntKind.i64.wrap ((BitVec.ofInt 64 (IntKind.i64.wrap (Go.Lib.indexByte hexL x * 16)) ||| BitVec.ofInt 64 (Go.Lib.indexByte hexL y)).toNat:Int))
def hx2 (x y:UInt8):UInt8:=UInt8.ofNat (hxI x y).toNat
theorem hx_eq (x y:UInt8):IntKind.u8.wrap (IntKind.i64.wrap ((BitVec.ofInt 64 (IntKind.i64.wrap (Go.Lib.indexByte [48,49,50,51,52,53,54,55,56,57,97,98,99,100,101,102] x * 16)) ||| BitVec.ofInt 64 (Go.Lib.indexByte [48,49,50,51,52,53,54,55,56,57,97,98,99,100,101,102] y)).toNat:Int))=((hx2 x y).toNat:Int):=by
 show hxI x y=_
 unfold hx2
 have h:0≤hxI x y∧hxI x y < 256:=by unfold hxI;rw [wrap_u8];omega
 have e:(UInt8.ofNat (hxI x y).toNat).toNat=(hxI x y).toNat:=by
  rw [UInt8.toNat_ofNat'];exact Nat.mod_eq_of_lt (by omega)
 rw [e];omega
def stepU (r:List UInt8):UInt8×Nat:=
 if ((((r.getD 0 0).toNat:Int)==92)&&decide ((2:Int)≤r.length))=true then
  (if ((((r.getD 1 0).toNat:Int)==120)&&decide ((4:Int)≤r.length))=true then (hx2 (r.getD 2 0) (r.getD 3 0),4) else (r.getD 1 0,2))
 else (r.getD 0 0,1)
theorem stepU_cons (c0:UInt8) (rest:List UInt8):stepU (c0::rest)=if (((c0.toNat:Int)==92)&&decide ((2:Int)≤((rest.length+1:Nat):Int)))=true then
  (if ((((rest.getD 0 0).toNat:Int)==120)&&decide ((4:Int)≤((rest.length+1:Nat):Int)))=true then (hx2 (rest.getD 1 0) (rest.getD 2 0),4) else (rest.getD 0 0,2)) else (c0,1):=rfl
def unqL:Nat→List UInt8→Option (List UInt8)
 | _,[]=>some []
 | 0,_::_=>none
 | n+1,c::r=>if q1 (stepU (c::r)).1=(c::r).take (stepU (c::r)).2 then (unqL n ((c::r).drop (stepU (c::r)).2)).map ((stepU (c::r)).1::·) else none
def unquote (s:List UInt8):Option (List UInt8):=
 if (decide ((s.length:Int) < 2)||((s.getD 0 0).toNat:Int) != 34||((s.getD (s.length - 1) 0).toNat:Int) != 34)=true then none else unqL s.length ((s.take (s.length - 1)).drop 1)
def retU:Option (List UInt8)→Value
 | some l=>.tuple #[.string (bs l),.int .i64 0]
 | none=>.tuple #[.string (bs []),.int .i64 10]
theorem unquote_pure (F:Base) (s:List UInt8) (hs:s.length≤1000000000000):PureV Tryz.prog F 81 #[.string (bs s)] (retU (unquote s)):=by
 refine pureV_of_svcW mixed Tryz.func81 low81 (Nat.le_of_ble_eq_true rfl) (fun w0 hw0=>?_)
 simp only [fu81,↓ZD,ZW,simprocAttr]
 refine conj.of (fun h=>by have:=of_decide_eq_false h;omega) ?_
 simp (disch:=first | assumption | exact .symm ‹_› | omega) only [↓ZD,ZW,simprocAttr]
 refine conj.of (fun h=>by simp only [Bool.or_eq_false_iff,decide_eq_false_iff_not] at h;omega) ?_
 simp (disch:=first | assumption | exact .symm ‹_› | omega) only [↓ZD,ZW,simprocAttr]
 have e1:((s.length:Int) - 1).toNat=s.length - 1:=by omega
 rw [e1]
 unfold unquote
 refine ⟨fun hc=>?_,fun hc=>?_⟩
 ·rw [if_pos hc];rfl
 have h2:2≤s.length:=by simp only [Bool.or_eq_false_iff,decide_eq_false_iff_not] at hc;omega
 rw [if_neg (by rw [hc];simp)]
 refine conj.of (by omega) ?_
 simp only [e1,↓ZD,ZW,simprocAttr]
 generalize hR:unqL s.length ((s.take (s.length - 1)).drop 1)=R
 have hml:((s.take (s.length - 1)).drop 1).length≤s.length:=by simp only [List.length_drop,List.length_take];omega
 refine LoopL.inv (α:=Nat×List UInt8×List UInt8×Value×Hp) (fun x=>x.2.1.length≤x.1∧x.2.2.1.length+x.2.1.length≤s.length∧(unqL x.1 x.2.1).map (x.2.2.1++·)=R∧OwnS F 1 5 (byteCells x.2.2.1) x.2.2.1.length x.2.2.2.1 x.2.2.2.2)
  (fun x=>[(4,some x.2.2.2.1),(5,some (.string (bs x.2.1)))])
  (fun x=>x.2.2.2.2) (fun x=>x.1) (s.length,(s.take (s.length - 1)).drop 1,[],.slice none 0 0,[]) ⟨hml,by simpa using hml,by simpa using hR,.nil⟩ ?_ ?_ ?_
 ·simp only [Le_nil,Le_cons]
  simp only [↓ZD,ZW,simprocAttr]
 ·simp only [HLe_nil]
 rintro ⟨n,rest,out,v,Ho⟩ ⟨hn,hl,hu,ho⟩
 simp only at hn hl hu ho
 cases rest with
 | nil=>
  simp only [↓ZD,ZW,simprocAttr]
  have hu':R=some out:=by rw [← hu];cases n <;> simp [unqL]
  rw [hu']
  rcases ho.out with ⟨h3,h4,rfl,rfl⟩ | ⟨g,cap,sp,rfl,rfl,hF,hl2,hs',hc2,hcm⟩
  ·have:out=[]:=List.eq_nil_of_length_eq_zero h4
   subst this
   simp only [↓ZD,ZW,simprocAttr]
   rfl
  ·have e2:(byteCells out).length=out.length:=byteCells_len out
   simp only [hF,e2,↓ZD,ZW,simprocAttr]
   rfl
 | cons c0 rest=>
  have hne:(c0::rest==([]:List UInt8))=false:=rfl
  simp only [List.length_cons] at hl hn
  obtain ⟨n,rfl⟩:∃ m,n=m+1:=⟨n - 1,by omega⟩
  simp only [hne,↓ZD,ZW,simprocAttr]
  refine conj.of (by omega) ?_
  simp only [hne,↓ZD,ZW,simprocAttr]
  refine ⟨fun hb=>?_,fun hb=>?_⟩
  ·refine conj.of (by simp at hb;omega) ?_
   simp only [↓ZD,ZW,simprocAttr]
   refine ⟨fun hx=>?_,fun hx=>?_⟩
   ·refine conj.of (by simp at hx;omega) ?_
    simp only [↓ZD,ZW,simprocAttr]
    refine CallQ.of _ (index_pure F _ _).up ?_
    simp only [↓ZD,ZW,simprocAttr]
    refine conj.of (by simp at hx;omega) ?_
    simp only [↓ZD,ZW,simprocAttr]
    refine CallQ.of _ (index_pure F _ _).up ?_
    simp only [hx_eq,↓ZD,ZW,simprocAttr]
    have hst:stepU (c0::rest)=(hx2 (rest.getD 1 0) (rest.getD 2 0),4):=by
     rw [stepU_cons]
     rw [if_pos hb,if_pos hx]
    refine CallQ.of _ (one_pure F _).up ?_
    simp only [↓ZD,ZW,simprocAttr]
    refine conj.of (by first | omega | (simp only [Bool.and_eq_true,beq_iff_eq,decide_eq_true_eq] at *;omega)) ?_
    simp only [↓ZD,ZW,simprocAttr]
    refine ⟨fun h1=>?_,fun h1=>?_⟩
    ·have hq:¬ q1 (stepU (c0::rest)).1=(c0::rest).take (stepU (c0::rest)).2:=by
      rw [hst]
      simpa using h1
     have:unqL (n+1) (c0::rest)=none:=by rw [unqL,if_neg hq]
     rw [this] at hu
     rw [← hu];rfl
    ·have hq:q1 (stepU (c0::rest)).1=(c0::rest).take (stepU (c0::rest)).2:=by
      rw [hst]
      simpa using h1
     have hu2:unqL (n+1) (c0::rest)=(unqL n ((c0::rest).drop 4)).map (hx2 (rest.getD 1 0) (rest.getD 2 0)::·):=by rw [unqL,if_pos hq,hst]
     rw [hu2,Option.map_map] at hu
     refine NewB.of fun b1 hb1 hF1=>?_
     simp only [hF1,↓ZD,ZW,simprocAttr]
     refine EfL.grow (Hr:=[]) (m:=1) (nw:=[.int .u8 (hx2 (rest.getD 1 0) (rest.getD 2 0)).toNat]) ho (ho.lk [_] (by simp only [List.forall_mem_cons,List.not_mem_nil,false_implies,implies_true,and_true];exact hb1)) (by simp) (by simp) ?_ rfl (by simp [oneCell]) (by simp) (by omega) ?_
     ·simp only [hF1,↓ZD,ZW,simprocAttr]
     intro b2 cap sp hs2 hc2 hcm hF2 hne
     have hk:1≤4∧4≤rest.length+1:=by first | omega | (simp only [Bool.and_eq_true,beq_iff_eq,decide_eq_true_eq] at *;omega)
     simp only [hF2,↓ZD,ZW,simprocAttr]
     refine conj.of (by omega) ?_
     simp only [hF2,↓ZD,ZW,simprocAttr]
     refine invK.on (n,(c0::rest).drop 4,out++[hx2 (rest.getD 1 0) (rest.getD 2 0)],.slice (some ⟨b2,0,none⟩) (out.length+1) cap,[(b2,.cells (byteCells out++[Value.int .u8 (hx2 (rest.getD 1 0) (rest.getD 2 0)).toNat]++sp).toArray 5 (0,0))]) ⟨?_,?_,?_,OwnS.mk sp hF2 (by rw [byteCells_app];rfl) (by simp) (by simp [byteCells]) (by simpa using hs2) (by simpa using hc2) hcm⟩ (by simp only;omega) (by simp only [Le_nil,Le_cons];simp only [Int.toNat_natCast,List.take_length,↓ZD,ZW,simprocAttr]) ?_
     ·simp only [List.length_drop,List.length_cons] at hn ⊢;omega
     ·simp only [List.length_drop,List.length_cons,List.length_append,List.length_nil] at hn hl ⊢;omega
     ·rw [← hu];congr 1;funext z;simp
     ·(try (simp (disch:=first | assumption | exact .symm ‹_› | omega) only [↓ZD,ZW,simprocAttr]);try trivial)
   ·have hst:stepU (c0::rest)=(rest.getD 0 0,2):=by
     rw [stepU_cons]
     rw [if_pos hb,if_neg (by rw [hx];simp)]
    refine CallQ.of _ (one_pure F _).up ?_
    simp only [↓ZD,ZW,simprocAttr]
    refine conj.of (by first | omega | (simp only [Bool.and_eq_true,beq_iff_eq,decide_eq_true_eq] at *;omega)) ?_
    simp only [↓ZD,ZW,simprocAttr]
    refine ⟨fun h1=>?_,fun h1=>?_⟩
    ·have hq:¬ q1 (stepU (c0::rest)).1=(c0::rest).take (stepU (c0::rest)).2:=by
      rw [hst]
      simpa using h1
     have:unqL (n+1) (c0::rest)=none:=by rw [unqL,if_neg hq]
     rw [this] at hu
     rw [← hu];rfl
    ·have hq:q1 (stepU (c0::rest)).1=(c0::rest).take (stepU (c0::rest)).2:=by
      rw [hst]
      simpa using h1
     have hu2:unqL (n+1) (c0::rest)=(unqL n ((c0::rest).drop 2)).map (rest.getD 0 0::·):=by rw [unqL,if_pos hq,hst]
     rw [hu2,Option.map_map] at hu
     refine NewB.of fun b1 hb1 hF1=>?_
     simp only [hF1,↓ZD,ZW,simprocAttr]
     refine EfL.grow (Hr:=[]) (m:=1) (nw:=[.int .u8 (rest.getD 0 0).toNat]) ho (ho.lk [_] (by simp only [List.forall_mem_cons,List.not_mem_nil,false_implies,implies_true,and_true];exact hb1)) (by simp) (by simp) ?_ rfl (by simp [oneCell]) (by simp) (by omega) ?_
     ·simp only [hF1,↓ZD,ZW,simprocAttr]
     intro b2 cap sp hs2 hc2 hcm hF2 hne
     have hk:1≤2∧2≤rest.length+1:=by first | omega | (simp only [Bool.and_eq_true,beq_iff_eq,decide_eq_true_eq] at *;omega)
     simp only [hF2,↓ZD,ZW,simprocAttr]
     refine conj.of (by omega) ?_
     simp only [hF2,↓ZD,ZW,simprocAttr]
     refine invK.on (n,(c0::rest).drop 2,out++[rest.getD 0 0],.slice (some ⟨b2,0,none⟩) (out.length+1) cap,[(b2,.cells (byteCells out++[Value.int .u8 (rest.getD 0 0).toNat]++sp).toArray 5 (0,0))]) ⟨?_,?_,?_,OwnS.mk sp hF2 (by rw [byteCells_app];rfl) (by simp) (by simp [byteCells]) (by simpa using hs2) (by simpa using hc2) hcm⟩ (by simp only;omega) (by simp only [Le_nil,Le_cons];simp only [Int.toNat_natCast,List.take_length,↓ZD,ZW,simprocAttr]) ?_
     ·simp only [List.length_drop,List.length_cons] at hn ⊢;omega
     ·simp only [List.length_drop,List.length_cons,List.length_append,List.length_nil] at hn hl ⊢;omega
     ·rw [← hu];congr 1;funext z;simp
     ·(try (simp (disch:=first | assumption | exact .symm ‹_› | omega) only [↓ZD,ZW,simprocAttr]);try trivial)
  ·have hst:stepU (c0::rest)=(c0,1):=by
    rw [stepU_cons]
    rw [if_neg (by rw [hb];simp)]
   refine CallQ.of _ (one_pure F _).up ?_
   simp only [↓ZD,ZW,simprocAttr]
   refine conj.of (by first | omega | (simp only [Bool.and_eq_true,beq_iff_eq,decide_eq_true_eq] at *;omega)) ?_
   simp only [↓ZD,ZW,simprocAttr]
   refine ⟨fun h1=>?_,fun h1=>?_⟩
   ·have hq:¬ q1 (stepU (c0::rest)).1=(c0::rest).take (stepU (c0::rest)).2:=by
     rw [hst]
     simpa using h1
    have:unqL (n+1) (c0::rest)=none:=by rw [unqL,if_neg hq]
    rw [this] at hu
    rw [← hu];rfl
   ·have hq:q1 (stepU (c0::rest)).1=(c0::rest).take (stepU (c0::rest)).2:=by
     rw [hst]
     simpa using h1
    have hu2:unqL (n+1) (c0::rest)=(unqL n ((c0::rest).drop 1)).map (c0::·):=by rw [unqL,if_pos hq,hst]
    rw [hu2,Option.map_map] at hu
    refine NewB.of fun b1 hb1 hF1=>?_
    simp only [hF1,↓ZD,ZW,simprocAttr]
    refine EfL.grow (Hr:=[]) (m:=1) (nw:=[.int .u8 (c0).toNat]) ho (ho.lk [_] (by simp only [List.forall_mem_cons,List.not_mem_nil,false_implies,implies_true,and_true];exact hb1)) (by simp) (by simp) ?_ rfl (by simp [oneCell]) (by simp) (by omega) ?_
    ·simp only [hF1,↓ZD,ZW,simprocAttr]
    intro b2 cap sp hs2 hc2 hcm hF2 hne
    have hk:1≤1∧1≤rest.length+1:=by first | omega | (simp only [Bool.and_eq_true,beq_iff_eq,decide_eq_true_eq] at *;omega)
    simp only [hF2,↓ZD,ZW,simprocAttr]
    refine conj.of (by omega) ?_
    simp only [hF2,↓ZD,ZW,simprocAttr]
    refine invK.on (n,(c0::rest).drop 1,out++[c0],.slice (some ⟨b2,0,none⟩) (out.length+1) cap,[(b2,.cells (byteCells out++[Value.int .u8 (c0).toNat]++sp).toArray 5 (0,0))]) ⟨?_,?_,?_,OwnS.mk sp hF2 (by rw [byteCells_app];rfl) (by simp) (by simp [byteCells]) (by simpa using hs2) (by simpa using hc2) hcm⟩ (by simp only;omega) (by simp only [Le_nil,Le_cons];simp only [Int.toNat_natCast,List.take_length,↓ZD,ZW,simprocAttr]) ?_
    ·simp only [List.length_drop,List.length_cons] at hn ⊢;omega
    ·simp only [List.length_drop,List.length_cons,List.length_append,List.length_nil] at hn hl ⊢;omega
    ·rw [← hu];congr 1;funext z;simp
    ·(try (simp (disch:=first | assumption | exact .symm ‹_› | omega) only [↓ZD,ZW,simprocAttr]);try trivial)
theorem drop_getD {s:List UInt8} {i j:Nat}:s.getD (i+j) 0=(s.drop i).getD j 0:=by
 simp [List.getD_eq_getElem?_getD,List.getElem?_drop]
theorem all_u8 {p:UInt8→Prop} (h:∀ n:Nat,n < 256→p (UInt8.ofNat n)) (c:UInt8):p c:=by
 have:=h c.toNat (u8_lt c)
 rwa [ofNat_toNat'] at this
theorem hx2_hex:∀ c:UInt8,hx2 (hexL.getD (c.toNat / 16) 0) (hexL.getD (c.toNat % 16) 0)=c:=
 all_u8 (by decide +kernel)
theorem q1_cases (c:UInt8):(q1 c=[c]∧c≠92)∨(q1 c=[92,c]∧(c=34∨c=92))∨q1 c=[92,120,hexL.getD (c.toNat / 16) 0,hexL.getD (c.toNat % 16) 0]:=by
 unfold q1
 split
 ·rename_i h
  refine .inl ⟨rfl,fun e=>?_⟩
  subst e;revert h;decide
 ·split
  ·rename_i h
   refine .inr (.inl ⟨rfl,?_⟩)
   simp only [Bool.or_eq_true,beq_iff_eq] at h
   rcases h with h | h
   ·exact .inl (UInt8.toNat_inj.mp (by show c.toNat=34;omega))
   ·exact .inr (UInt8.toNat_inj.mp (by show c.toNat=92;omega))
  ·exact .inr (.inr rfl)
theorem stepU_q1 (c:UInt8) (t:List UInt8):stepU (q1 c++t)=(c,(q1 c).length):=by
 rcases q1_cases c with ⟨h,h2⟩ | ⟨h,h2⟩ | h
 ·rw [h]
  show stepU (c::t)=(c,1)
  rw [stepU_cons,if_neg]
  simp only [Bool.and_eq_true,beq_iff_eq]
  intro hh
  exact h2 (UInt8.toNat_inj.mp (by show c.toNat=92;omega))
 ·rw [h]
  show stepU (92::c::t)=(c,2)
  rw [stepU_cons,if_pos (by simp;omega),if_neg]
  ·rfl
  ·simp only [Bool.and_eq_true,beq_iff_eq,List.getD_cons_zero]
   rintro ⟨h3,-⟩
   rcases h2 with rfl | rfl <;> revert h3 <;> decide
 ·rw [h]
  show stepU (92::120::hexL.getD (c.toNat / 16) 0::hexL.getD (c.toNat % 16) 0::t)=(c,4)
  rw [stepU_cons,if_pos (by simp;omega),if_pos (by simp;omega)]
  show (hx2 (hexL.getD (c.toNat / 16) 0) (hexL.getD (c.toNat % 16) 0),4)=_
  rw [hx2_hex]
theorem q1_ne (c:UInt8):q1 c≠[]:=by
 rcases q1_cases c with ⟨h,-⟩ | ⟨h,-⟩ | h <;> rw [h] <;> simp
theorem unqL_all:∀ (o:List UInt8) (n:Nat),(o.flatMap q1).length≤n→unqL n (o.flatMap q1)=some o
 | [],n,_=>by cases n <;> rfl
 | c::o,n,hn=>by
  simp only [List.flatMap_cons] at hn ⊢
  obtain ⟨x,r,hx⟩:∃ x r,q1 c++o.flatMap q1=x::r:=by
   cases h:q1 c++o.flatMap q1 with
   | nil=>exact absurd (List.append_eq_nil_iff.mp h).1 (q1_ne c)
   | cons x r=>exact ⟨x,r,rfl⟩
  have hlen:1≤(q1 c).length:=by
   cases h:q1 c with
   | nil=>exact absurd h (q1_ne c)
   | cons=>simp
  obtain ⟨n,rfl⟩:∃ m,n=m+1:=⟨n - 1,by rw [List.length_append] at hn;omega⟩
  have hst:=stepU_q1 c (o.flatMap q1)
  rw [hx] at hst ⊢
  rw [unqL,hst]
  simp only
  rw [← hx,List.take_left' rfl,List.drop_left' rfl,if_pos rfl,unqL_all o n (by rw [List.length_append] at hn;omega)]
  rfl
theorem unquote_quote (o:List UInt8):unquote (quote o)=some o:=by
 unfold unquote quote
 have e1:(34::(o.flatMap q1++[34])).length=(o.flatMap q1).length+2:=by simp
 have e2:(34::(o.flatMap q1++[34])).getD ((o.flatMap q1).length+2 - 1) 0=34:=by
  rw [show (o.flatMap q1).length+2 - 1=(o.flatMap q1).length+1 by omega,List.getD_cons_succ,List.getD_eq_getElem?_getD]
  simp
 have e3:((34::(o.flatMap q1++[34])).take ((o.flatMap q1).length+2 - 1)).drop 1=o.flatMap q1:=by
  rw [show (o.flatMap q1).length+2 - 1=(o.flatMap q1).length+1 by omega,List.take_succ_cons,List.drop_succ_cons,List.drop_zero,List.take_left' rfl]
 rw [e1,e2,e3,if_neg]
 ·exact unqL_all o _ (by omega)
 ·simp only [Bool.or_eq_true,decide_eq_true_eq,bne_iff_ne,not_or]
  exact ⟨⟨by omega,by simp⟩,by simp⟩
def cc:List UInt8:=[58,58]
def pieces (s:List UInt8):List (List UInt8):=Go.Lib.splitK cc 0 (Go.Lib.count s cc) s
def pathB (s:List UInt8):Bool:=(pieces s).all nameB
theorem pathB_miss {s:List UInt8} (h:Go.Lib.index s cc=-1):pathB s=nameB s:=by
 unfold pathB pieces
 rw [Go.Lib.count_miss h];simp [Go.Lib.splitK]
theorem pathB_hit {s:List UInt8} {i:Nat} (h:Go.Lib.index s cc=i):pathB s=(nameB (s.take i)&&pathB (s.drop (i+2))):=by
 unfold pathB pieces
 rw [Go.Lib.count_hit (by decide) h,Nat.add_comm,Go.Lib.splitK,if_neg (by rw [h];simp),h]
 rfl
def HasM (F:Base):Prop:=∃ c T fz m,F 2=some (.cells c T fz)∧c[0]?=some (.int .i64 m)
theorem HasM.mono {F F':Base} (h:HasM F) (hF:∀ b o,F b=some o→F' b=some o):HasM F':=by
 obtain ⟨c,T,fz,m,h1,h2⟩:=h;exact ⟨c,T,fz,m,hF _ _ h1,h2⟩
theorem split_does (F:Base) (hg:HasM F) (s:List UInt8) (hs:s.length < 4294967281) :
  Does Tryz.prog F 89 #[.string (bs s),.string (bs [58,58])] [] (fun r H'=>∃ b,r=.slice (some ⟨b,0,none⟩) (pieces s).length (pieces s).length∧H'=[(b,.cells ((pieces s).map fun x=>Value.string (bs x)).toArray 9 (0,0))]):=by
 intro w1 hw1 w hs1
 obtain ⟨c,T,fz,m,h1,h2⟩:=hg
 have hb:=hs1.base _ _ h1
 have hc:w.cell? ⟨2,0,none⟩=some (.int .i64 m):=by simp [World.cell?,hb,h2]
 have hlen:(Go.Lib.splitB (bs cc) 0 (Go.Lib.countB (bs s) (bs cc)) (bs s)).length=(pieces s).length:=by
  have:=Go.Lib.splitB_data (bs cc) 0 (Go.Lib.countB (bs s) (bs cc)) (bs s)
  have h3:=congrArg List.length this
  rw [List.length_map] at h3
  exact h3
 have hn:Go.Lib.countB (bs s) (bs cc)+1=(pieces s).length:=by
  rw [← hlen];exact (Go.Lib.splitB_all (bs cc) (by decide) 0 _ (bs s) rfl).symm
 have hmap:(Go.Lib.splitB (bs cc) 0 (Go.Lib.countB (bs s) (bs cc)) (bs s)).map Value.string=(pieces s).map fun x=>Value.string (bs x):=by
  have h3:pieces s=(Go.Lib.splitB (bs cc) 0 (Go.Lib.countB (bs s) (bs cc)) (bs s)).map (·.data.toList):=(Go.Lib.splitB_data (bs cc) 0 _ (bs s)).symm
  rw [h3,List.map_map];rfl
 refine (Tryz.strings_Split (bs s) (bs cc) m w hs hc (by decide)).mono ?_
 rintro e w' ⟨rfl,rfl⟩
 rw [hn,hmap]
 exact ⟨_,[(w.heap.size,_)],rfl,hs1.new _,w.heap.size,rfl,rfl⟩
theorem getD_str {l:List (List UInt8)} {i:Nat} (h:i < l.length):((l.map fun x=>Value.string (bs x)).drop i).take 1=[Value.string (bs (l.getD i []))]:=by
 rw [List.drop_eq_getElem_cons (by simpa using h),List.take_succ_cons,List.take_zero,List.getElem_map,List.getD_eq_getElem?_getD,List.getElem?_eq_getElem h];rfl
theorem pieces_le (s:List UInt8):(pieces s).length≤s.length+2:=by
 have h1:=Go.Lib.splitB_data (bs cc) 0 (Go.Lib.countB (bs s) (bs cc)) (bs s)
 have h3:=congrArg List.length h1
 rw [List.length_map] at h3
 have h4:=Go.Lib.splitB_length_le (bs cc) 0 (Go.Lib.countB (bs s) (bs cc)) (bs s)
 have h5:=Go.Lib.count_le s cc
 have h6:Go.Lib.countB (bs s) (bs cc)=Go.Lib.count s cc:=rfl
 show (Go.Lib.splitK cc 0 (Go.Lib.count s cc) s).length≤_
 have h7:(Go.Lib.splitK cc 0 (Go.Lib.count s cc) s).length=(Go.Lib.splitB (bs cc) 0 (Go.Lib.countB (bs s) (bs cc)) (bs s)).length:=h3.symm
 omega
theorem piece_le (s:List UInt8):∀ x∈pieces s,x.length≤s.length:=by
 have key:∀ (k:Nat) (s:List UInt8),∀ x∈Go.Lib.splitK cc 0 k s,x.length≤s.length:=by
  intro k
  induction k with
  | zero=>intro s x hx;simp [Go.Lib.splitK] at hx;subst hx;exact Nat.le_refl _
  | succ k ih=>
   intro s x hx
   rw [Go.Lib.splitK] at hx
   split at hx
   ·simp at hx;subst hx;exact Nat.le_refl _
   ·rcases List.mem_cons.mp hx with rfl | hx
    ·simp only [List.length_take];omega
    ·have:=ih _ x hx
     simp only [List.length_drop] at this;omega
 exact key _ s
theorem path_pure (F:Base) (hg:HasM F) (s:List UInt8) (hs:s.length≤1000000000):PureV Tryz.prog F 62 #[.string (bs s)] (.bool (pathB s)):=by
 refine pureV_of_svcW mixed Tryz.func62 low62 (Nat.le_of_ble_eq_true rfl) (fun w0 hw0=>?_)
 have hpl:=pieces_le s
 have hp1:=piece_le s
 simp (disch:=first | assumption | exact .symm ‹_› | omega) only [fu62,↓ZD,ZW,simprocAttr]
 refine CallE.news ((split_does F hg s (by omega)).up le_up) ?_
 rintro _ _ ⟨b,rfl,rfl⟩ h1 h2 -
 have hF:=h1 _ (List.mem_singleton.2 rfl)
 simp only at hF
 unfold pathB
 generalize pieces s=P at *
 simp (disch:=first | assumption | exact .symm ‹_› | omega) only [hF,↓ZD,ZW,simprocAttr]
 refine LoopL.inv (fun (i:Nat)=>i≤P.length∧(P.take i).all nameB=true) (fun i=>[(6,some (.slice (some ⟨b,0,none⟩) P.length P.length)),(7,some (.int .i64 P.length)),(8,some (.int .i64 i))]) (fun i=>[(b,.cells (P.map fun x=>Value.string (bs x)).toArray 9 (0,0))]) (fun i=>P.length - i) (0) (⟨Nat.zero_le _,rfl⟩) (by (simp (disch:=first | assumption | exact .symm ‹_› | omega) only [↓ZD,ZW,simprocAttr];try trivial)) (by (try (simp (disch:=first | assumption | exact .symm ‹_› | omega) only [↓ZD,ZW,simprocAttr]);try trivial)) ?_
 rintro i ⟨hi,ha⟩
 by_cases hlt:i < P.length
 ·have hd:decide ((i:Int) < (P.length:Int))=true:=by simp;omega
  have hgs:=getD_str hlt
  have hmem:P[i]?=some (P.getD i []):=by rw [List.getD_eq_getElem?_getD,List.getElem?_eq_getElem hlt];rfl
  have hlen:=hp1 _ (List.mem_of_getElem? hmem)
  have htk:P.take (i+1)=P.take i++[P.getD i []]:=by
   rw [List.take_succ_eq_append_getElem hlt];congr;simp [hlt]
  simp (disch:=first | assumption | exact .symm ‹_› | omega) only [hF,hd,↓ZD,ZW,simprocAttr]
  refine conj.of (by omega) ?_
  have hle:i+1≤P.length:=hlt
  simp (disch:=first | assumption | exact .symm ‹_› | omega) only [hF,Int.toNat_natCast,Nat.mul_one,List.length_map,hle,hgs,↓ZD,ZW,simprocAttr]
  refine CallE.pure (name_pure F _ (by omega)) ?_
  simp (disch:=first | assumption | exact .symm ‹_› | omega) only [hF,↓ZD,ZW,simprocAttr]
  refine ⟨fun hc=>?_,fun hc=>?_⟩
  ·have:P.all nameB=false:=by
    rw [List.all_eq_false];exact ⟨_,List.mem_of_getElem? hmem,by simpa using hc⟩
   rw [this]
  ·have:(P.take (i+1)).all nameB=true:=by rw [htk,List.all_append,ha];simpa using hc
   refine invK.on (i+1) (⟨by omega,this⟩) (by omega) (by (simp (disch:=first | assumption | exact .symm ‹_› | omega) only [hF,↓ZD,ZW,simprocAttr];try trivial)) (by (try (simp (disch:=first | assumption | exact .symm ‹_› | omega) only [hF,↓ZD,ZW,simprocAttr]);try trivial))
 ·have hd:decide ((i:Int) < (P.length:Int))=false:=by simp;omega
  have:i=P.length:=by omega
  subst this
  rw [List.take_length] at ha
  simp (disch:=first | assumption | exact .symm ‹_› | omega) only [hd,ha,↓ZD,ZW,simprocAttr]
theorem occ_iff (r:List UInt8) (j:Nat):Go.Lib.occAt r cc j=true↔j+1 < r.length∧r.getD j 0=58∧r.getD (j+1) 0=58:=by
 have e0:r.getD j 0=(r.drop j).getD 0 0:=drop_getD (j:=0)
 have e1:r.getD (j+1) 0=(r.drop j).getD 1 0:=drop_getD
 have el:(r.drop j).length=r.length - j:=List.length_drop
 unfold Go.Lib.occAt cc
 rw [e0,e1]
 generalize r.drop j=t at *
 match t,el with
 | [],el=>
  simp only [List.length_nil] at el
  constructor
  ·intro h;simp [List.isPrefixOf] at h
  ·rintro ⟨h,-⟩;omega
 | [a],el=>
  simp only [List.length_cons,List.length_nil] at el
  constructor
  ·intro h;simp [List.isPrefixOf] at h
  ·rintro ⟨h,-⟩;omega
 | a::b::t,el=>
  simp only [List.length_cons] at el
  simp only [List.isPrefixOf,Bool.and_true,Bool.and_eq_true,beq_iff_eq,List.getD_cons_zero,List.getD_cons_succ]
  constructor
  ·rintro ⟨h1,h2⟩;exact ⟨by omega,h1.symm,h2.symm⟩
  ·rintro ⟨-,h1,h2⟩;exact ⟨h1.symm,h2.symm⟩
theorem idx_at {r:List UInt8} {i:Nat} (h:Go.Lib.occAt r cc i=true) (hn:∀ j,j < i→Go.Lib.occAt r cc j=false):Go.Lib.index r cc=i:=by
 rcases Go.Lib.index_spec r cc with ⟨h1,h2⟩ | ⟨k,h1,h2,h3,h4⟩
 ·have:=(occ_iff r i).mp h
  rw [h2 i (by omega)] at h;cases h
 ·rcases Nat.lt_trichotomy k i with hk | hk | hk
  ·rw [hn k hk] at h3;cases h3
  ·rw [h1,hk]
  ·have:=h4 i hk
   rw [h] at this;cases this
theorem idx_no {r:List UInt8} (hn:∀ j,Go.Lib.occAt r cc j=false):Go.Lib.index r cc=-1:=by
 rcases Go.Lib.index_spec r cc with ⟨h1,h2⟩ | ⟨k,h1,h2,h3,h4⟩
 ·exact h1
 ·rw [hn k] at h3;cases h3
def I64 (a:Int):Prop:=-9223372036854775808≤a∧a≤9223372036854775807
def fitR (x:Int):Int×Int:=if -9223372036854775808≤x∧x≤9223372036854775807 then (x,0) else (0,14)
def pr (p:Int×Int):Value:=.tuple #[.int .i64 p.1,.int .i64 p.2]
def size (a:Int):Int:=if a < 0 then -a else a
theorem fit_yes {x y:Int} (h:I64 x) (e:y=x):Value.tuple #[.int .i64 y,.int .i64 0]=pr (fitR x):=by
 unfold I64 at h;unfold pr fitR;rw [if_pos h,e]
theorem fit_no {x:Int} (h:¬ I64 x):Value.tuple #[.int .i64 0,.int .i64 14]=pr (fitR x):=by
 unfold I64 at h;unfold pr fitR;rw [if_neg h]
theorem number_pure (F:Base) (m:Bool) (n:Int) (hn:0≤n∧n≤18446744073709551615):PureV Tryz.prog F 80 #[.bool m,.int .u64 n] (pr (fitR (if m then -n else n))):=by
 refine pureV_of_svc mixed Tryz.func80 low80 (Nat.le_of_ble_eq_true rfl) (fun w0=>?_)
 simp only [fu80,↓ZD,ZW,simprocAttr]
 cases m
 ·simp only [Bool.false_and,Bool.not_false,Bool.true_and,Bool.false_eq_true,false_implies,true_and,forall_const,if_false,decide_eq_true_eq,decide_eq_false_iff_not]
  refine ⟨fun h=>fit_yes ?_ ?_,fun h=>fit_no ?_⟩ <;> (try rw [wrap_i64]) <;> (try unfold I64) <;> omega
 ·simp only [Bool.true_and,Bool.not_true,Bool.false_and,Bool.false_eq_true,false_implies,true_and,forall_const,if_true,decide_eq_true_eq,decide_eq_false_iff_not]
  refine ⟨fun h=>fit_yes ?_ ?_,fun h=>fit_no ?_⟩ <;> (try rw [wrap_i64,wrap_i64]) <;> (try unfold I64) <;> omega
def val (d0 d1 d2 d3:Int):Int:=d0 * 79228162514264337593543950336+d1 * 18446744073709551616+d2 * 4294967296+d3
def nn (m:Bool) (d0 d1 d2 d3:Int):Value:=.agg #[.bool m,.int .u64 d0,.int .u64 d1,.int .u64 d2,.int .u64 d3]
def nvalFrom (n:Nat) (l:List UInt8):Nat:=l.foldl (fun n c=>n * 10+(c.toNat - 48)) n
def nval (l:List UInt8):Nat:=nvalFrom 0 l
def readD (m:Bool) (l:List UInt8):Int×Int:=
 if l=[]∨(l.getD 0 0=48∧(1 < l.length∨m=true))∨l.all isD=false then (0,10) else fitR (if m then -(nval l:Int) else nval l)
theorem nvalFrom_app (n:Nat) (l:List UInt8) (c:UInt8):nvalFrom n (l++[c])=nvalFrom n l * 10+(c.toNat - 48):=by simp [nvalFrom]
theorem nval_succ (l:List UInt8) (i:Nat) (h:i < l.length):nval (l.take (i+1))=nval (l.take i) * 10+((l.getD i 0).toNat - 48):=by
 unfold nval
 rw [List.take_add_one,List.getElem?_eq_getElem h,Option.toList_some,nvalFrom_app,List.getD_eq_getElem?_getD,List.getElem?_eq_getElem h];rfl
theorem cut_pure (F:Base) (m:Bool) (l:List UInt8) (h:m=false→l.head?≠some 45):PureV Tryz.prog F 77 #[.string (bs (if m then 45::l else l)),.string (bs [45])] (.tuple #[.string (bs l),.bool m]):=by
 refine PureV.of_same fun w=>(Tryz.strings_CutPrefix _ _ w).mono fun e w' h'=>?_
 obtain ⟨he,hw⟩:=h'
 refine ⟨?_,hw⟩
 rw [he]
 cases m with
 | true=>rfl
 | false=>
  have h0:=h rfl
  have hp:Lib.hasPrefix l [45]=false:=by
   cases l with
   | nil=>rfl
   | cons c l=>
    simp only [List.head?_cons,ne_eq,Option.some.injEq] at h0
    simp only [Lib.hasPrefix,List.isPrefixOf]
    simp;exact fun h=>h0 h.symm
  simp only [Lib.trimPrefix,Bool.false_eq_true,if_false,bs_list,hp]
  rfl
theorem add64 (F:Base) (H:Hp) (a b:Int) (ha:0≤a) (ha':a < 18446744073709551616) (hb:0≤b) (hb':b < 18446744073709551616):semq Tryz.prog F H (callFunc 79 #[.int .u64 a,.int .u64 b,.int .u64 0]) (fun n=>n=.value (.tuple #[.int .u64 ((a+b) % 18446744073709551616),.int .u64 ((a+b) / 18446744073709551616)])):=by
 refine semq_row Tryz.func79 (by decide) rfl (by rfl) (by rfl) (row:=fun args=>do
  let (x, y, c) ← Extern.MathBitsCarry.three "Add64" args
  pure (Extern.MathBitsCarry.pair ((x+y+c) % Extern.MathBitsCarry.m64) ((x+y+c) / Extern.MathBitsCarry.m64))) ?_
 show Extern.MathBitsCarry.pair ((a.toNat+b.toNat+0) % Extern.MathBitsCarry.m64) ((a.toNat+b.toNat+0) / Extern.MathBitsCarry.m64)=_
 obtain ⟨X,rfl⟩:=Int.eq_ofNat_of_zero_le ha
 obtain ⟨Y,rfl⟩:=Int.eq_ofNat_of_zero_le hb
 simp only [Extern.MathBitsCarry.pair,Extern.MathBitsCarry.m64,Int.toNat_natCast]
 congr 4 <;> simp <;> omega
def readI (l:List UInt8) (x:Nat×Nat×Bool):Prop:=
 x.1≤l.length∧x.2.1 < 18446744073709551616∧(l.take x.1).all isD=true∧(if x.2.2=true then 18446744073709551616≤nval (l.take x.1) else x.2.1=nval (l.take x.1))
theorem read_pure (F:Base) (m:Bool) (l:List UInt8) (hm:m=false→l.head?≠some 45) (hl:l.length≤1000000000):PureV Tryz.prog F 54 #[.string (bs (if m then 45::l else l))] (pr (readD m l)):=by
 refine pureV_of_svc mixed Tryz.func54 low54 (Nat.le_of_ble_eq_true rfl) (fun w0=>?_)
 simp only [fu54,↓ZD,ZW,simprocAttr]
 refine CallE.pure (cut_pure F m l hm) ?_
 simp only [↓ZD,ZW,simprocAttr]
 have h0:((l==[])=false→(0:Int) < l.length):=by intro h;cases l <;> simp at h ⊢
 refine conj.of h0 ?_
 simp only [↓ZD,ZW,simprocAttr]
 refine ⟨fun h=>?_,fun h=>?_⟩
 ·unfold readD
  rw [if_pos]
  ·rfl
  ·cases l with
   | nil=>exact .inl rfl
   | cons c l=>simp at h ⊢;refine .inl ⟨UInt8.toNat_inj.mp (by simp;omega),?_⟩;cases m <;> simp at h ⊢;omega
 ·have hne:l≠[]:=by rintro rfl;simp at h
  have hform:¬ (l.getD 0 0=48∧(1 < l.length∨m=true)):=by
   rintro ⟨h1,h2⟩
   rw [h1] at h
   cases m <;> simp at h h2 <;> omega
  intro k
  refine NewB.of fun b1 hb1 hF1=>?_
  simp only [hF1,↓ZD,ZW,simprocAttr]
  refine LoopL.inv (α:=Nat×Nat×Bool) (readI l)
   (fun x=>[(5,some (.bool m)),(6,some (.int .u64 x.2.1)),(7,some (.bool x.2.2)),(35,some (.slice (some ⟨b1,0,none⟩) l.length (l.length+k))),(36,some (.int .i64 l.length)),(37,some (.int .i64 x.1))])
   (fun x=>[(b1,.cells (byteCells l++List.replicate k (Value.int .u8 0)).toArray 5 (l.length+k,l.length+k+1))])
   (fun x=>l.length - x.1) (0,0,false) ⟨Nat.zero_le _,by decide,rfl,rfl⟩ ?_ ?_ ?_
  ·simp only [Le_nil,Le_cons]
   simp only [↓ZD,ZW,simprocAttr]
  ·simp only [HLe_nil,HLe_cons]
   simp only [↓ZD,ZW,simprocAttr]
  ·rintro ⟨i,n,ov⟩ hI
   obtain ⟨hi,hn,ha,hv⟩:=hI
   simp only at hi hn ha hv ⊢
   by_cases hlt:i < l.length
   ·have hd:decide ((i:Int) < (l.length:Int))=true:=by simp;omega
    have hc1:i+1≤l.length+k:=by omega
    have hld:=ld_bytes l (List.replicate k (Value.int .u8 0)) i hlt
    simp only [hF1,hd,↓ZD,ZW,simprocAttr]
    refine conj.of (by omega) ?_
    simp only [hF1,hd,hld,hc1,Nat.mul_one,Int.toNat_natCast,List.length_append,List.length_replicate,↓ZD,ZW,simprocAttr]
    have hm:PureV Tryz.prog F 78 #[.int .u64 n,.int .u64 10] (.tuple #[.int .u64 ((n:Int) * 10 / 18446744073709551616),.int .u64 ((n:Int) * 10 % 18446744073709551616)]):=
     PureV.of_same fun w=>(Tryz.bits_Mul64 n 10 (by omega) (by omega) w).mono fun e w' h=>h
    refine ⟨fun hb=>?_,fun hb=>?_⟩
    ·unfold readD
     rw [if_pos]
     ·rfl
     ·refine .inr (.inr ?_)
      rw [List.all_eq_false]
      refine ⟨l.getD i 0,?_,?_⟩
      ·rw [List.getD_eq_getElem?_getD,List.getElem?_eq_getElem hlt];exact List.getElem_mem hlt
      ·unfold isD;simp at hb ⊢;omega
    ·refine CallE.pure hm ?_
     have hc:48≤(l.getD i 0).toNat∧(l.getD i 0).toNat≤57:=by simp at hb ⊢;omega
     have hw:IntKind.u64.wrap (IntKind.u8.wrap (((l.getD i 0).toNat:Int) - 48))=(((l.getD i 0).toNat - 48:Nat):Int):=by
      rw [wrap_u64,wrap_u8];omega
     simp (disch:=first | assumption | exact .symm ‹_› | omega) only [hw,↓ZD,ZW,simprocAttr]
     refine CallQ.of _ (add64 F _ _ _ (by omega) (by omega) (by omega) (by omega)) ?_
     simp (disch:=first | assumption | exact .symm ‹_› | omega) only [↓ZD,ZW,simprocAttr]
     have ns:=nval_succ l i hlt
     have ha':(l.take (i+1)).all isD=true:=by
      rw [List.take_add_one,List.all_append,ha,List.getElem?_eq_getElem hlt]
      have:l.getD i 0=l[i]:=by rw [List.getD_eq_getElem?_getD,List.getElem?_eq_getElem hlt];rfl
      rw [this] at hc
      simp [isD];omega
     revert hc hw ns
     generalize (l.getD i 0).toNat=c
     intro hc hw ns
     have e7:(ov||decide (0 < (n:Int) * 10 / 18446744073709551616)||decide (0 < ((n:Int) * 10 % 18446744073709551616+(c - 48)) / 18446744073709551616))=(ov||decide (0 < n * 10 / 18446744073709551616)||decide (0 < (n * 10 % 18446744073709551616+(c - 48)) / 18446744073709551616)):=by
      congr 1
      ·congr 1;rw [decide_eq_decide];omega
      ·rw [decide_eq_decide];omega
     refine invK.on (i+1,(n * 10 % 18446744073709551616+(c - 48)) % 18446744073709551616,(ov||decide (0 < n * 10 / 18446744073709551616)||decide (0 < (n * 10 % 18446744073709551616+(c - 48)) / 18446744073709551616))) ⟨?_,?_,?_,?_⟩ ?_ ?_ ?_
     ·show i+1≤l.length
      omega
     ·show _ % _ < _
      omega
     ·exact ha'
     ·show (if (ov||decide (0 < n * 10 / 18446744073709551616)||decide (0 < (n * 10 % 18446744073709551616+(c - 48)) / 18446744073709551616))=true then 18446744073709551616≤nval (l.take (i+1)) else (n * 10 % 18446744073709551616+(c - 48)) % 18446744073709551616=nval (l.take (i+1)))
      rw [ns]
      cases ov with
      | true=>
       simp only [if_true] at hv
       simp only [Bool.true_or,if_true];omega
      | false=>
       simp only [Bool.false_eq_true,if_false] at hv
       rw [← hv]
       split
       ·rename_i h;simp at h;omega
       ·rename_i h;simp at h;omega
     ·show l.length - (i+1) < l.length - i
      omega
     ·simp only [Le_nil,Le_cons,← e7]
      simp (disch:=first | assumption | exact .symm ‹_› | omega) only [↓ZD,ZW,simprocAttr]
      refine ⟨?_,?_⟩
      ·congr 2;omega
      ·rfl
     ·simp only [HLe_nil,HLe_cons]
      simp only [↓ZD,ZW,simprocAttr]
   ·have hd:decide ((i:Int) < (l.length:Int))=false:=by simp;omega
    simp only [hF1,hd,↓ZD,ZW,simprocAttr]
    have hil:i=l.length:=by omega
    rw [hil,List.take_length] at ha hv
    have hr:readD m l=fitR (if m then -(nval l:Int) else nval l):=by
     unfold readD
     rw [if_neg]
     rintro (h | h | h)
     ·exact hne h
     ·exact hform h
     ·rw [ha] at h;cases h
    refine ⟨fun h=>?_,fun h=>?_⟩
    ·subst h
     simp only [if_true] at hv
     rw [hr]
     exact fit_no (by unfold I64;split <;> omega)
    ·subst h
     simp only [Bool.false_eq_true,if_false] at hv
     rw [hr,← hv]
     refine CallE.pure (number_pure F m n (by omega)) ?_
     simp only [pr,↓ZD,ZW,simprocAttr]
theorem isL_eq (c:UInt8):nameB [c]=isL c:=by simp [nameB]
theorem xletter_pure (F:Base) (c:UInt8):PureV Tryz.prog F 51 #[.int .u8 c.toNat] (.bool (isL c)):=by
 refine pureV_of_svc mixed Tryz.func51 low51 (Nat.le_of_ble_eq_true rfl) (fun w0=>?_)
 simp only [fu51,↓ZD,ZW,simprocAttr]
 refine NewB.of fun b1 hb1 hF1=>?_
 simp only [hF1,↓ZD,ZW,simprocAttr]
 refine CallE.pure (name_pure F [c] (by simp)) ?_
 simp only [isL_eq,↓ZD,ZW,simprocAttr]
theorem xdigit_pure (F:Base) (c:UInt8):PureV Tryz.prog F 53 #[.int .u8 c.toNat] (.bool (isD c)):=by
 refine pureV_of_svc mixed Tryz.func53 low53 (Nat.le_of_ble_eq_true rfl) (fun w0=>?_)
 simp only [fu53,↓ZD,ZW,simprocAttr]
 rfl
theorem notlf_pure (F:Base) (c:UInt8):PureV Tryz.prog F 49 #[.int .u8 c.toNat] (.bool ((c.toNat:Int) != 10)):=by
 refine pureV_of_svc mixed Tryz.func49 low49 (Nat.le_of_ble_eq_true rfl) (fun w0=>?_)
 simp only [fu49,↓ZD,ZW,simprocAttr]
theorem ld_pure (F:Base) (c:UInt8):PureV Tryz.prog F 52 #[.int .u8 c.toNat] (.bool (isLD c)):=by
 refine pureV_of_svc mixed Tryz.func52 low52 (Nat.le_of_ble_eq_true rfl) (fun w0=>?_)
 simp only [fu52,↓ZD,ZW,simprocAttr]
 refine CallE.pure (xletter_pure F c) ?_
 simp only [↓ZD,ZW,simprocAttr]
 refine CallQ.of _ (fun _=>(xdigit_pure F c).up) ?_
 simp only [↓ZD,ZW,simprocAttr]
 rfl
theorem takeWhile_at {p:UInt8→Bool} {s:List UInt8} {i:Nat} (hi:i < s.length) (h1:(s.take i).all p=true) (h2:p (s.getD i 0)=false):(s.takeWhile p).length=i:=by
 induction s generalizing i with
 | nil=>simp at hi
 | cons c r ih=>
  cases i with
  | zero=>rw [List.getD_cons_zero] at h2;simp [List.takeWhile_cons,h2]
  | succ i=>
   rw [List.take_succ_cons,List.all_cons,Bool.and_eq_true] at h1
   rw [List.getD_cons_succ] at h2
   rw [List.takeWhile_cons,if_pos h1.1,List.length_cons,ih (by simpa using hi) h1.2 h2]
theorem takeWhile_all {p:UInt8→Bool} {s:List UInt8} (h:s.all p=true):s.takeWhile p=s:=by
 induction s with
 | nil=>rfl
 | cons c r ih=>
  rw [List.all_cons,Bool.and_eq_true] at h
  rw [List.takeWhile_cons,if_pos h.1,ih h.2]
theorem row_pure (F:Base) (s:List UInt8) (fv:Value) (p:UInt8→Bool) (hs:s.length≤9223372036854775807) (hp:∀ c,PureF Tryz.prog F fv [.int .u8 c.toNat] (.bool (p c))) :
  PureV Tryz.prog F 48 #[.string (bs s),fv] (.int .i64 (s.takeWhile p).length):=by
 refine pureV_of_svc mixed Tryz.func48 low48 (Nat.le_of_ble_eq_true rfl) (fun w0=>?_)
 simp only [fu48,↓ZD,ZW,simprocAttr]
 refine LoopL.inv (fun (i:Nat)=>i≤s.length∧(s.take i).all p=true) (fun i=>[(0,some (.string (bs s))),(1,some fv),(5,some (.int .i64 i))]) (fun i=>[]) (fun i=>s.length - i) (0) (⟨Nat.zero_le _,rfl⟩) (by (simp (disch:=first | assumption | exact .symm ‹_› | omega) only [↓ZD,ZW,simprocAttr];try trivial)) (by (try (simp (disch:=first | assumption | exact .symm ‹_› | omega) only [↓ZD,ZW,simprocAttr]);try trivial)) ?_
 rintro i ⟨hi,ha⟩
 by_cases hlt:i < s.length
 ·have hd:decide ((i:Int) < (s.length:Int))=true:=by simp;omega
  simp only [hd,Int.toNat_natCast,↓ZD,ZW,simprocAttr]
  refine conj.of (by omega) ?_
  simp only [hd,Int.toNat_natCast,↓ZD,ZW,simprocAttr]
  refine CallQ.of _ (hp _).up ?_
  simp only [hd,Int.toNat_natCast,↓ZD,ZW,simprocAttr]
  refine ⟨fun hc=>?_,fun hc=>?_⟩
  ·refine invK.on (i+1) (⟨by omega,by rw [all_snoc hlt,ha,hc];rfl⟩) (by omega) (by (simp (disch:=first | assumption | exact .symm ‹_› | omega) only [↓ZD,ZW,simprocAttr];try trivial)) (by (try (simp (disch:=first | assumption | exact .symm ‹_› | omega) only [↓ZD,ZW,simprocAttr]);try trivial))
  ·rw [takeWhile_at hlt ha hc]
 ·have hd:decide ((i:Int) < (s.length:Int))=false:=by simp;omega
  have:i=s.length:=by omega
  subst this
  rw [List.take_length] at ha
  simp only [hd,↓ZD,ZW,simprocAttr]
  refine CallQ.of (.bool false) trivial ?_
  simp only [hd,↓ZD,ZW,simprocAttr]
  rw [takeWhile_all ha]
theorem lx_callable_ld:callable Tryz.prog 52=true:=by kernel_rfl
theorem lx_callable_dg:callable Tryz.prog 53=true:=by kernel_rfl
theorem lx_callable_lf:callable Tryz.prog 49=true:=by kernel_rfl
def nameX:List UInt8→List UInt8
 | []=>[]
 | c::r=>if isL c=true then c::r.takeWhile isLD else []
theorem nameX_eq (s:List UInt8):nameX s=if ((s==[])||!isL (s.getD 0 0))=true then [] else s.takeWhile isLD:=by
 cases s with
 | nil=>rfl
 | cons c r=>
  have e:(c::r==([]:List UInt8))=false:=rfl
  rw [nameX,List.getD_cons_zero,e,Bool.false_or]
  cases h:isL c with
  | true=>rw [if_pos rfl,if_neg (by simp),List.takeWhile_cons,if_pos (isLD_of h)]
  | false=>rw [if_neg (by simp)];rfl
theorem takeWhile_pre (p:UInt8→Bool) (s:List UInt8):s.take (s.takeWhile p).length=s.takeWhile p:=by
 induction s with
 | nil=>rfl
 | cons c r ih=>
  rw [List.takeWhile_cons];split
  ·rw [List.length_cons,List.take_succ_cons,ih]
  ·rfl
theorem takeWhile_le (p:UInt8→Bool) (s:List UInt8):(s.takeWhile p).length≤s.length:=by
 rw [← takeWhile_pre p s];rw [List.length_take];omega
theorem xname_pure (F:Base) (s:List UInt8) (hs:s.length≤9223372036854775807):PureV Tryz.prog F 50 #[.string (bs s)] (.string (bs (nameX s))):=by
 refine pureV_of_svc mixed Tryz.func50 low50 (Nat.le_of_ble_eq_true rfl) (fun w0=>?_)
 rw [nameX_eq]
 simp only [fu50,↓ZD,ZW,simprocAttr]
 refine conj.of (fun h=>by cases s with
  | nil=>cases h
  | cons c r=>simp only [List.length_cons];omega) ?_
 simp only [Int.toNat_zero,↓ZD,ZW,simprocAttr]
 refine CallQ.of _ (fun _=>(xletter_pure F _).up) ?_
 simp only [↓ZD,ZW,simprocAttr]
 refine ⟨fun hc=>?_,fun hc=>?_⟩
 ·rw [if_pos hc]
 ·rw [if_neg (by rw [hc];simp)]
  have hl:=takeWhile_le isLD s
  refine CallE.pure (row_pure F s _ isLD hs fun c=>⟨52,#[],#[],rfl,lx_callable_ld,ld_pure F c⟩) ?_
  simp only [↓ZD,ZW,simprocAttr]
  refine conj.of (by omega) ?_
  simp only [Int.toNat_natCast,takeWhile_pre,↓ZD,ZW,simprocAttr]
def isB (c:UInt8):Bool:=decide ((0:Int)≤Go.Lib.indexByte [9,10,13,32] c)
def cntB:Nat→List UInt8→Nat
 | 0,_=>0
 | _,[]=>0
 | n+1,c::r=>if isB c=true then cntB n r+1 else if Go.Lib.hasPrefix (c::r) [47,47]=true then
   ((c::r).takeWhile fun c=>((c.toNat:Int) != 10)).length+cntB n ((c::r).drop ((c::r).takeWhile fun c=>((c.toNat:Int) != 10)).length) else 0
theorem has_pure (F:Base) (s p:List UInt8):PureV Tryz.prog F 47 #[.string (bs s),.string (bs p)] (.bool (Go.Lib.hasPrefix s p)):=by
 refine PureV.of_same fun w=>(Tryz.strings_HasPrefix (bs s) (bs p) w).mono ?_
 rintro e w' ⟨rfl,rfl⟩
 exact ⟨rfl,rfl⟩
theorem lf_pos {c:UInt8} {r:List UInt8} (h:Go.Lib.hasPrefix (c::r) [47,47]=true):1≤((c::r).takeWhile fun c=>((c.toNat:Int) != 10)).length:=by
 cases r with
 | nil=>simp [Go.Lib.hasPrefix,List.isPrefixOf] at h
 | cons d r=>
  simp only [Go.Lib.hasPrefix,List.isPrefixOf,Bool.and_true,Bool.and_eq_true,beq_iff_eq] at h
  rw [← h.1,List.takeWhile_cons,if_pos (by decide)]
  simp
theorem cntB_le:∀ (n:Nat) (s:List UInt8),cntB n s≤s.length
 | 0,s=>Nat.zero_le _
 | n+1,[]=>Nat.le_refl _
 | n+1,c::r=>by
  rw [cntB]
  split
  ·have:=cntB_le n r;simp only [List.length_cons];omega
  ·split
   ·have h1:=cntB_le n ((c::r).drop ((c::r).takeWhile fun c=>((c.toNat:Int) != 10)).length)
    have h2:=takeWhile_le (fun c=>((c.toNat:Int) != 10)) (c::r)
    rw [List.length_drop] at h1;omega
   ·omega
theorem cntB_fuel:∀ (n m:Nat) (s:List UInt8),s.length≤n→n≤m→cntB m s=cntB n s
 | 0,m,s,h,_=>by
  have:s=[]:=List.eq_nil_of_length_eq_zero (by omega)
  subst this;cases m <;> rfl
 | n+1,0,s,_,h=>absurd h (by omega)
 | n+1,m+1,[],_,_=>rfl
 | n+1,m+1,c::r,h,hm=>by
  rw [cntB,cntB]
  split
  ·rw [cntB_fuel n m r (by simpa using h) (by omega)]
  ·split
   ·rename_i hp
    have h2:=lf_pos hp
    rw [cntB_fuel n m _ (by rw [List.length_drop];simp only [List.length_cons] at h ⊢;omega) (by omega)]
   ·rfl
def blankN (s:List UInt8):Nat:=cntB s.length s
theorem blank_pure (F:Base) (s:List UInt8) (hs:s.length≤1000000000):PureV Tryz.prog F 23 #[.string (bs s)] (.int .i64 (blankN s)):=by
 refine pureV_of_svc mixed Tryz.func23 low23 (Nat.le_of_ble_eq_true rfl) (fun w0=>?_)
 simp only [fu23,↓ZD,ZW,simprocAttr]
 refine LoopL.inv (fun (i:Nat)=>i≤s.length∧blankN s=i+blankN (s.drop i)) (fun i=>[(0,some (.string (bs s))),(3,some (.int .i64 i))]) (fun i=>[]) (fun i=>s.length - i) (0) (⟨Nat.zero_le _,by simp⟩) (by (simp (disch:=first | assumption | exact .symm ‹_› | omega) only [↓ZD,ZW,simprocAttr];try trivial)) (by (try (simp (disch:=first | assumption | exact .symm ‹_› | omega) only [↓ZD,ZW,simprocAttr]);try trivial)) ?_
 rintro i ⟨hi,ha⟩
 by_cases hlt:i < s.length
 ·have hd:decide ((i:Int) < (s.length:Int))=true:=by simp;omega
  have hg:s.getD i 0=(s.drop i).getD 0 0:=drop_getD (j:=0)
  obtain ⟨c,r,hcr⟩:∃ c r,s.drop i=c::r:=by
   rw [List.drop_eq_getElem_cons hlt];exact ⟨_,_,rfl⟩
  have hlen:(s.drop i).length=s.length - i:=List.length_drop
  have hdr:s.drop (i+1)=r:=by rw [← List.drop_drop,hcr];rfl
  have hb:blankN (c::r)=if isB c=true then blankN r+1 else if Go.Lib.hasPrefix (c::r) [47,47]=true then
   ((c::r).takeWhile fun c=>((c.toNat:Int) != 10)).length+blankN ((c::r).drop ((c::r).takeWhile fun c=>((c.toNat:Int) != 10)).length) else 0:=by
   show cntB (r.length+1) (c::r)=_
   rw [cntB]
   split
   ·rfl
   ·split
    ·rename_i hp
     have h2:=lf_pos hp
     unfold blankN
     rw [cntB_fuel _ r.length _ (Nat.le_refl _) (by rw [List.length_drop];simp only [List.length_cons];omega)]
    ·rfl
  rw [hcr] at hlen ha
  rw [hb] at ha
  have hll:((List.drop i (c::r)).length=0∨True):=.inr trivial
  simp only [hd,Int.toNat_natCast,↓ZD,ZW,simprocAttr]
  refine conj.of (by omega) ?_
  simp only [Int.toNat_natCast,List.take_length,hcr,↓ZD,ZW,simprocAttr]
  refine conj.of (by omega) ?_
  simp only [↓ZD,ZW,simprocAttr]
  refine CallE.pure (index_pure F [9,10,13,32] c) ?_
  simp only [↓ZD,ZW,simprocAttr]
  refine ⟨fun hc=>?_,fun hc=>?_⟩
  ·rw [if_pos (show isB c=true from hc)] at ha
   refine invK.on (i+1) (⟨by omega,by rw [hdr];omega⟩) (by omega) (by (simp (disch:=first | assumption | exact .symm ‹_› | omega) only [↓ZD,ZW,simprocAttr];try trivial)) (by (try (simp (disch:=first | assumption | exact .symm ‹_› | omega) only [↓ZD,ZW,simprocAttr]);try trivial))
  ·rw [if_neg (by rw [isB,hc];simp)] at ha
   refine CallE.pure (has_pure F (c::r) [47,47]) ?_
   simp only [↓ZD,ZW,simprocAttr]
   refine ⟨fun hp=>?_,fun hp=>?_⟩
   ·rw [if_pos hp] at ha
    have h2:=lf_pos hp
    have h3:=takeWhile_le (fun c=>((c.toNat:Int) != 10)) (c::r)
    refine CallE.pure (row_pure F (c::r) _ (fun c=>((c.toNat:Int) != 10)) (by omega) fun c=>⟨49,#[],#[],rfl,lx_callable_lf,notlf_pure F c⟩) ?_
    revert ha h2 h3
    generalize ((c::r).takeWhile fun c=>((c.toNat:Int) != 10)).length=k
    intro ha h2 h3
    simp only [↓ZD,ZW,simprocAttr]
    refine invK.on (i+k) (⟨by omega,by rw [← List.drop_drop,hcr];omega⟩) (by omega) (by (simp (disch:=first | assumption | exact .symm ‹_› | omega) only [↓ZD,ZW,simprocAttr];try trivial)) (by (try (simp (disch:=first | assumption | exact .symm ‹_› | omega) only [↓ZD,ZW,simprocAttr]);try trivial))
   ·rw [if_neg (by rw [hp];simp)] at ha
    have:blankN s=i:=by omega
    rw [this]
 ·have hd:decide ((i:Int) < (s.length:Int))=false:=by simp;omega
  have:i=s.length:=by omega
  subst this
  rw [List.drop_length] at ha
  have:blankN s=s.length:=ha
  simp only [hd,this,↓ZD,ZW,simprocAttr]
def clo:Bool→List UInt8→Option Nat
 | _,[]=>none
 | o,c::r=>if ((c==34)&&!o)=true then some 1 else (clo ((c==92)&&!o) r).map (·+1)
theorem clo_skip {d:UInt8} {r:List UInt8}:clo true (d::r)=(clo false r).map (·+1):=by
 rw [clo];simp
theorem clo_le:∀ (r:List UInt8) (o:Bool) (k:Nat),clo o r=some k→k≤r.length
 | [],o,k,h=>by cases h
 | c::r,o,k,h=>by
  rw [clo] at h
  split at h
  ·injection h with h;subst h;simp
  ·obtain ⟨m,hm,rfl⟩:=Option.map_eq_some_iff.mp h
   have:=clo_le r _ m hm
   simp only [List.length_cons];omega
theorem eqC {c d:UInt8} {n:Int} (h:((c.toNat:Int)==n)=true) (hd:n=(d.toNat:Int):=by rfl):c=d:=by
 have h:(c.toNat:Int)=n:=by simpa using h
 exact UInt8.toNat_inj.mp (by omega)
theorem neC {c d:UInt8} {n:Int} (h:((c.toNat:Int)==n)=false) (hd:n=(d.toNat:Int):=by rfl):c≠d:=by
 have h:¬ (c.toNat:Int)=n:=by simpa using h
 rintro rfl
 omega
def qX (s:List UInt8):List UInt8×Nat:=match clo false (s.drop 1) with
 | none=>([],0)
 | some k=>match unquote (s.take (k+1)) with
  | none=>([],0)
  | some t=>(t,k+1)
theorem quoted_pure (F:Base) (s:List UInt8) (hs:s.length≤1000000000):PureV Tryz.prog F 55 #[.string (bs s)] (.tuple #[.string (bs (qX s).1),.int .i64 (qX s).2]):=by
 refine pureV_of_svc mixed Tryz.func55 low55 (Nat.le_of_ble_eq_true rfl) (fun w0=>?_)
 simp only [fu55,↓ZD,ZW,simprocAttr]
 refine LoopL.inv (fun (n:Nat)=>1≤n∧n≤s.length+1∧clo false (s.drop 1)=(clo false (s.drop n)).map (·+(n - 1))) (fun n=>[(0,some (.string (bs s))),(4,some (.int .i64 n))]) (fun n=>[]) (fun n=>s.length+1 - n) (1) (⟨Nat.le_refl _,by omega,by simp⟩) (by (simp (disch:=first | assumption | exact .symm ‹_› | omega) only [↓ZD,ZW,simprocAttr];try trivial)) (by (try (simp (disch:=first | assumption | exact .symm ‹_› | omega) only [↓ZD,ZW,simprocAttr]);try trivial)) ?_
 rintro n ⟨h1,hi,ha⟩
 by_cases hlt:n < s.length
 ·have hd:decide ((n:Int) < (s.length:Int))=true:=by simp;omega
  obtain ⟨c,r,hcr⟩:∃ c r,s.drop n=c::r:=by
   rw [List.drop_eq_getElem_cons hlt];exact ⟨_,_,rfl⟩
  have hc:s.getD n 0=c:=by rw [show s.getD n 0=(s.drop n).getD 0 0 from drop_getD (j:=0),hcr];rfl
  have hdr:s.drop (n+1)=r:=by rw [← List.drop_drop,hcr];rfl
  have hlen:(s.drop n).length=s.length - n:=List.length_drop
  rw [hcr] at ha hlen
  simp only [List.length_cons] at hlen
  rw [clo] at ha
  simp only [hd,Int.toNat_natCast,hc,↓ZD,ZW,simprocAttr]
  refine conj.of (by omega) ?_
  simp (disch:=first | assumption | exact .symm ‹_› | omega) only [hd,Int.toNat_natCast,hc,↓ZD,ZW,simprocAttr]
  refine ⟨fun hb=>?_,fun hb=>?_⟩
  ·have hcb:c=92:=eqC hb
   subst hcb
   rw [if_neg (by decide),show ((92:UInt8)==92&&!false)=true from rfl] at ha
   refine invK.on (n+2) (⟨by omega,by omega,by
    rw [ha,← List.drop_drop (i:=1) (j:=n+1),hdr]
    cases r with
    | nil=>rfl
    | cons d r=>rw [clo_skip];simp only [List.drop_succ_cons,List.drop_zero,Option.map_map];congr 1;funext z;simp only [Function.comp];omega⟩) (by omega) (by (simp (disch:=first | assumption | exact .symm ‹_› | omega) only [↓ZD,ZW,simprocAttr];try trivial)) (by (try (simp (disch:=first | assumption | exact .symm ‹_› | omega) only [↓ZD,ZW,simprocAttr]);try trivial))
  ·refine ⟨fun hq=>?_,fun hq=>?_⟩
   ·have hcb:c=34:=eqC hq
    subst hcb
    rw [if_pos (by decide)] at ha
    have ha2:clo false (s.drop 1)=some n:=by rw [ha];simp only [Option.map_some];congr 1;omega
    have hq:qX s=match unquote (s.take (n+1)) with | none=>([],0) | some t=>(t,n+1):=by rw [qX,ha2]
    rw [hq]
    refine conj.of (by omega) ?_
    simp only [Int.toNat_natCast,↓ZD,ZW,simprocAttr]
    have hn1:((n:Int)+1).toNat=n+1:=by omega
    simp only [hn1]
    refine CallE.pure (unquote_pure F _ (by rw [List.length_take];omega)) ?_
    cases hu:unquote (s.take (n+1)) with
    | none=>
     unfold retU
     simp only [↓ZD,ZW,simprocAttr]
    | some t=>
     unfold retU
     simp (disch:=first | assumption | exact .symm ‹_› | omega) only [↓ZD,ZW,simprocAttr]
     rfl
   ·have hne:((c==34)&&!false)=false:=by
     have:c≠34:=neC hq
     simp [this]
    have hne2:((c==92)&&!false)=false:=by
     have:c≠92:=neC hb
     simp [this]
    rw [hne,hne2,if_neg (by simp)] at ha
    refine invK.on (n+1) (⟨by omega,by omega,by rw [ha,hdr,Option.map_map];congr 1;funext z;simp only [Function.comp];omega⟩) (by omega) (by (simp (disch:=first | assumption | exact .symm ‹_› | omega) only [↓ZD,ZW,simprocAttr];try trivial)) (by (try (simp (disch:=first | assumption | exact .symm ‹_› | omega) only [↓ZD,ZW,simprocAttr]);try trivial))
 ·have hd:decide ((n:Int) < (s.length:Int))=false:=by simp;omega
  rw [List.drop_eq_nil_of_le (by omega:s.length≤n)] at ha
  have:qX s=([],0):=by rw [qX,ha];rfl
  rw [this]
  simp only [hd,↓ZD,ZW,simprocAttr]
def twosL:List (List UInt8):=[[58,58],[61,61],[33,61],[60,61],[62,61],[38,38],[124,124]]
def onesL:List UInt8:=[40,41,123,125,91,93,44,59,58,46,60,62,33,43,45,42]
def marksL:List (List UInt8):=twosL++onesL.map fun c=>[c]
def HasMarks (F:Base):Prop:=∃ T fz,F 1=some (.cells (marksL.map fun x=>Value.string (bs x)).toArray T fz)
theorem HasMarks.mono {F F':Base} (h:HasMarks F) (hF:∀ b o,F b=some o→F' b=some o):HasMarks F':=by
 obtain ⟨T,fz,h1⟩:=h;exact ⟨T,fz,hF _ _ h1⟩
def markX (s:List UInt8):List UInt8:=(marksL.find? fun m=>Go.Lib.hasPrefix s m).getD []
abbrev Wd:=Nat×List UInt8×Int
def oneX (s:List UInt8):Wd×Nat×Int:=
 if isL (s.getD 0 0)=true then ((1,nameX s,0),(nameX s).length,0)
 else if isD (s.getD 0 0)=true then ((2,s.takeWhile isD,(readD false (s.takeWhile isD)).1),(s.takeWhile isD).length,(readD false (s.takeWhile isD)).2)
 else if s.getD 0 0=34 then ((3,(qX s).1,0),(qX s).2,0)
 else if s.getD 0 0=63 then (if nameX (s.drop 1)=[] then ((0,[],0),0,0) else ((4,nameX (s.drop 1),0),(nameX (s.drop 1)).length+1,0))
 else if s.getD 0 0=64 then ((5,[64],0),1,0)
 else if markX s=[] then ((0,[],0),0,0) else ((5,markX s,0),(markX s).length,0)
def wdV (w:Wd) (at_:Nat):List Value:=[.int .i64 w.1,.string (bs w.2.1),.int .i64 w.2.2,.int .i64 at_]
def oneV (x:Wd×Nat×Int):Value:=.tuple #[.agg #[.int .i64 x.1.1,.string (bs x.1.2.1),.int .i64 x.1.2.2,.int .i64 0],.int .i64 x.2.1,.int .i64 x.2.2]
theorem digits_pre {s:List UInt8}:(s.takeWhile isD).head?≠some 45:=by
 cases s with
 | nil=>simp
 | cons c r=>
  rw [List.takeWhile_cons];split
  ·rename_i h
   simp only [List.head?_cons,ne_eq,Option.some.injEq]
   rintro rfl;revert h;decide
  ·simp
theorem markX_none {s:List UInt8} (h:∀ m∈marksL,Go.Lib.hasPrefix s m=false):markX s=[]:=by
 unfold markX
 rw [List.find?_eq_none.mpr (fun m hm=>by rw [h m hm];simp)];rfl
theorem markX_at {s:List UInt8} {i:Nat} (hi:i < marksL.length) (h1:∀ m∈marksL.take i,Go.Lib.hasPrefix s m=false) (h2:Go.Lib.hasPrefix s (marksL.getD i [])=true):markX s=marksL.getD i []:=by
 have hg:marksL.getD i []=marksL[i]:=by rw [List.getD_eq_getElem?_getD,List.getElem?_eq_getElem hi];rfl
 have e:marksL=marksL.take i++marksL[i]::marksL.drop (i+1):=by
  rw [← List.drop_eq_getElem_cons hi,List.take_append_drop]
 unfold markX
 rw [e,List.find?_append,List.find?_eq_none.mpr (fun m hm=>by rw [h1 m hm];simp),Option.none_or,List.find?_cons_of_pos (by rw [← hg];exact h2),← e,hg];rfl
theorem getD_arr {l:List (List UInt8)} {i:Nat} {d:Value} (h:i < l.length):(l.map fun x=>Value.string (bs x)).toArray.getD i d=Value.string (bs (l.getD i [])):=by
 have h':i < (l.map fun x=>Value.string (bs x)).length:=by simpa using h
 simp only [Array.getD_eq_getD_getElem?,List.getElem?_toArray,List.getElem?_map,List.getElem?_eq_getElem h,Option.map_some,Option.getD_some,List.getD_eq_getElem?_getD]
theorem getD_mem {α:Type} {l:List α} {d:α} {i:Nat} (h:i < l.length):l.getD i d∈l:=by
 rw [List.getD_eq_getElem?_getD,List.getElem?_eq_getElem h];exact List.getElem_mem _
theorem take_snoc' {α:Type} {l:List α} {d:α} {i:Nat} (h:i < l.length):l.take (i+1)=l.take i++[l.getD i d]:=by
 rw [List.take_succ_eq_append_getElem h];congr;rw [List.getD_eq_getElem?_getD,List.getElem?_eq_getElem h];rfl
theorem nameX_le (s:List UInt8):(nameX s).length≤s.length:=by
 cases s with
 | nil=>exact Nat.le_refl _
 | cons c r=>
  have:=takeWhile_le isLD r
  rw [nameX];split
  ·simp only [List.length_cons];omega
  ·exact Nat.zero_le _
theorem lx_callable_n:callable Tryz.prog 50=true:=by kernel_rfl
theorem lone_pure (F:Base) (hg:HasMarks F) (s:List UInt8) (h0:0 < s.length) (hs:s.length≤1000000000):PureV Tryz.prog F 24 #[.string (bs s)] (oneV (oneX s)):=by
 obtain ⟨T,fz,hM⟩:=hg
 refine pureV_of_svc mixed Tryz.func24 low24 (Nat.le_of_ble_eq_true rfl) (fun w0=>?_)
 have hld:(List.take 1 s).length=1:=by rw [List.length_take];omega
 have hn:=takeWhile_le isD s
 unfold oneX
 simp only [fu24,↓ZD,ZW,simprocAttr]
 refine NewB.of fun b hb hF=>?_
 simp only [hF,↓ZD,ZW,simprocAttr]
 refine conj.of (by omega) ?_
 simp only [hF,Int.toNat_zero,hld,↓ZD,ZW,simprocAttr]
 generalize hcc:s.getD 0 0=c
 refine CallE.pure (xletter_pure F c) ?_
 simp only [hF,↓ZD,ZW,simprocAttr]
 refine ⟨fun h1=>?_,fun h1=>?_⟩
 ·rw [if_pos h1]
  refine CallEF.pure ⟨50,#[],#[],rfl,lx_callable_n,xname_pure F s (by omega)⟩ ?_
  simp only [hF,↓ZD,ZW,simprocAttr]
  rfl
 rw [if_neg (by rw [h1];simp)]
 refine CallE.pure (xdigit_pure F c) ?_
 simp only [hF,↓ZD,ZW,simprocAttr]
 refine ⟨fun h2=>?_,fun h2=>?_⟩
 ·rw [if_pos h2]
  refine CallE.pure (row_pure F s _ isD (by omega) fun c=>⟨53,#[],#[],rfl,lx_callable_dg,xdigit_pure F c⟩) ?_
  simp only [hF,↓ZD,ZW,simprocAttr]
  refine conj.of (by omega) ?_
  simp only [hF,Int.toNat_natCast,takeWhile_pre,↓ZD,ZW,simprocAttr]
  refine CallE.pure (read_pure F false _ (fun _=>digits_pre) (by omega)) ?_
  unfold pr
  simp only [hF,↓ZD,ZW,simprocAttr]
  rfl
 rw [if_neg (by rw [h2];simp)]
 refine ⟨fun h3=>?_,fun h3=>?_⟩
 ·rw [if_pos (eqC h3)]
  refine CallE.pure (quoted_pure F s hs) ?_
  simp only [hF,↓ZD,ZW,simprocAttr]
  rfl
 rw [if_neg (neC h3)]
 refine ⟨fun h4=>?_,fun h4=>?_⟩
 ·rw [if_pos (eqC h4)]
  refine conj.of (by omega) ?_
  simp only [hF,↓ZD,ZW,simprocAttr]
  refine CallEF.pure ⟨50,#[],#[],rfl,lx_callable_n,xname_pure F _ (by rw [List.length_drop,List.length_take];omega)⟩ ?_
  simp only [hF,Int.toNat_natCast,List.take_length,↓ZD,ZW,simprocAttr]
  have hnl:=takeWhile_le isLD (s.drop 1)
  have hx:=nameX_le (s.drop 1)
  have hx2:(s.drop 1).length=s.length - 1:=List.length_drop
  refine ⟨fun he=>?_,fun he=>?_⟩
  ·rw [if_pos (by simpa using he)];rfl
  ·rw [if_neg (by simpa using he),in_i64 _ (by omega),Int.add_comm];rfl
 rw [if_neg (neC h4)]
 refine ⟨fun h5=>?_,fun h5=>?_⟩
 ·rw [if_pos (eqC h5)]
  rfl
 rw [if_neg (neC h5)]
 have hmk:marksL.length=23:=rfl
 have hml:(marksL.map fun x=>Value.string (bs x)).length=23:=rfl
 have hmt:(marksL.map fun x=>Value.string (bs x)).take 23=marksL.map fun x=>Value.string (bs x):=rfl
 simp (disch:=first | assumption | exact .symm ‹_› | omega) only [hF,hml,hmt,↓ZD,ZW,simprocAttr]
 refine LoopL.inv (fun (i:Nat)=>i≤23∧∀ m∈marksL.take i,Go.Lib.hasPrefix s m=false) (fun i=>[(0,some (.string (bs s))),(2,some (.pointer (some ⟨b,0,none⟩))),(76,some (.agg (marksL.map fun x=>Value.string (bs x)).toArray)),(77,some (.int .i64 i))]) (fun i=>[(b,.cells #[.int .i64 0,.string (bs []),.int .i64 0,.int .i64 0] 58 (0,0))]) (fun i=>23 - i) (0) (⟨Nat.zero_le _,fun m hm=>by cases hm⟩) (by (simp (disch:=first | assumption | exact .symm ‹_› | omega) only [↓ZD,ZW,simprocAttr];try trivial)) (by (try (simp (disch:=first | assumption | exact .symm ‹_› | omega) only [↓ZD,ZW,simprocAttr]);try trivial)) ?_
 rintro i ⟨hi,ha⟩
 by_cases hlt:i < 23
 ·have hd:decide ((i:Int) < 23)=true:=by simp;omega
  have hlt2:i < marksL.length:=hmk ▸ hlt
  have hix:=getD_arr (d:=undef) hlt2
  have hmem:=getD_mem (d:=[]) hlt2
  simp only [hF,hd,Int.toNat_natCast,↓ZD,ZW,simprocAttr]
  refine conj.of (by rw [hml];omega) ?_
  simp only [hF,hd,Int.toNat_natCast,Nat.mul_one,hix,↓ZD,ZW,simprocAttr]
  refine CallE.pure (has_pure F s _) ?_
  simp only [hF,↓ZD,ZW,simprocAttr]
  refine ⟨fun hp=>?_,fun hp=>?_⟩
  ·have hx:=markX_at (s:=s) (i:=i) hlt2 ha hp
   have hne:marksL.getD i []≠[]:=by
    intro e;rw [e] at hmem;revert hmem;decide
   rw [hx,if_neg hne]
   rfl
  ·refine invK.on (i+1) (⟨by omega,fun m hm=>by
    rw [take_snoc' (d:=[]) hlt2] at hm
    rcases List.mem_append.mp hm with hm | hm
    ·exact ha m hm
    ·rw [List.mem_singleton.mp hm,hp]⟩) (by omega) (by (simp (disch:=first | assumption | exact .symm ‹_› | omega) only [hF,↓ZD,ZW,simprocAttr];try trivial)) (by (try (simp (disch:=first | assumption | exact .symm ‹_› | omega) only [hF,↓ZD,ZW,simprocAttr]);try trivial))
 ·have hd:decide ((i:Int) < 23)=false:=by simp;omega
  obtain rfl:i=23:=by omega
  have:markX s=[]:=markX_none ha
  rw [if_pos this]
  simp only [hF,hd,↓ZD,ZW,simprocAttr]
  rfl
end Go.Proofs.YtoelfmmfjebabaaGreatDoor
