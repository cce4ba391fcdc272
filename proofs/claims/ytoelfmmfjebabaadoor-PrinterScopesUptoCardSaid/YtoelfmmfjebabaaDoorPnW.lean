/- Layer 10: policies, told. -/
import Derived.Test.YtoelfmmfjebabaaDoorPnV
namespace Go.Proofs.YtoelfmmfjebabaaDoor
open Go Go.Eng
open Int renaming reduceEq → Za, reduceToNat → Zm, reduceLE → Zn, reduceLT → Zo, reduceAdd → Zp, reduceSub → Zq, reduceNeg → Zr, reducePow → Zt, reduceNegSucc → Zv
open UInt8 renaming reduceOfNat → Zb
open List renaming mapM_cons → Zc, mapM_nil → Zd
open Nat renaming reduceAdd → Ze, reduceMul → Zf, reduceMod → Zg, reduceDiv → Zh, reduceEqDiff → Zi, reduceBEq → Zj, reduceLeDiff → Zk, reduceSub → Zl, reducePow → Zs, reduceLT → Zu
set_option linter.unusedSimpArgs false
set_option linter.unusedVariables false
set_option maxRecDepth 20000

def RepPols (F : Base) (v : Value) (l : List Pol) : Prop := ∃ a c, ∃ g : Nat → List Value, v = .slice a l.length c ∧ l.length ≤ c ∧ l.length ≤ 9223372036854775807 ∧ (∀ (i : Nat) (x : Pol), l[i]? = some x → Cl F a 21 i (g i)) ∧ ∀ (i : Nat) (x : Pol), l[i]? = some x → RepPol F (g i) x
theorem RepPols.mono {F F' : Base} {v : Value} {l : List Pol} (h : RepPols F v l) (hF : ∀ b o, F b = some o → F' b = some o) : RepPols F' v l := by
  obtain ⟨a, c, g, h1, h2, h3, h4, h5⟩ := h; exact ⟨a, c, g, h1, h2, h3, fun i x hi => (h4 i x hi).mono hF, fun i x hi => (h5 i x hi).mono hF⟩
def polsE : List Pol → Int
  | [] => 0
  | x :: l => if polE x = 0 then polsE l else polE x
def polsT : List Pol → Str
  | [] => []
  | x :: l => polTx x ++ polsT l
def pols (l : List Pol) : Str × Int := if polsE l = 0 then (polsT l, 0) else ([], polsE l)
def wtQ (l : List Pol) : Nat := (l.map fun x => wtP x + 1).sum
def nilS : Scp := ⟨0, [], [], [], false, []⟩
def nilP : Pol := ⟨[], false, nilS, nilS, nilS, []⟩
theorem polsT_app : ∀ l m, polsT (l ++ m) = polsT l ++ polsT m
  | [], m => by simp [polsT]
  | x :: l, m => by rw [List.cons_append, polsT, polsT, polsT_app l m, List.append_assoc]
theorem polsT_snoc (x : Pol) (l : List Pol) : polsT (l ++ [x]) = polsT l ++ polTx x := by rw [polsT_app]; simp [polsT]
theorem polsT_take (l : List Pol) (i : Nat) : (polsT (l.take i)).length ≤ (polsT l).length := by
  have e : polsT l = polsT (l.take i) ++ polsT (l.drop i) := by rw [← polsT_app, List.take_append_drop]
  rw [e, List.length_append]; omega
theorem polsE_zero : ∀ {l : List Pol}, (∀ c ∈ l, polE c = 0) → polsE l = 0
  | [], _ => rfl
  | c :: l, h => by rw [polsE, if_pos (h c List.mem_cons_self)]; exact polsE_zero fun c hc => h c (List.mem_cons_of_mem _ hc)
theorem polsE_at : ∀ {l : List Pol} {i : Nat} {c : Pol}, l[i]? = some c → (∀ c ∈ l.take i, polE c = 0) → polE c ≠ 0 → polsE l = polE c
  | y :: l, 0, c, h, _, hn => by simp only [List.getElem?_cons_zero, Option.some.injEq] at h; subst h; rw [polsE, if_neg hn]
  | y :: l, i + 1, c, h, hz, hn => by
    rw [polsE, if_pos (hz y (by simp))]
    exact polsE_at (l := l) (i := i) (by simpa using h) (fun c hc => hz c (by simp [hc])) hn
theorem wtQ_mem {x : Pol} : ∀ {l : List Pol}, x ∈ l → wtP x + 1 ≤ wtQ l
  | y :: l, h => by
    simp only [wtQ, List.map_cons, List.sum_cons]
    rcases List.mem_cons.1 h with rfl | h
    · omega
    · have := wtQ_mem h; simp only [wtQ] at this; omega
theorem polTx_len {F : Base} {cs : List Value} {x : Pol} (h : RepPol F cs x) : (polTx x).length ≤ 202 + 40 * wtP x := by
  obtain ⟨vp, va, vr, vc, -, -, -, -, -, ac, cc0, gc, -, -, -, -, hc2⟩ := h
  have h1 := headT_len x
  have h2 := condsT_len (F := F) (g := gc) (l := x.conds) fun c hc => by
    obtain ⟨i, hi⟩ := List.getElem?_of_mem hc
    exact ⟨_, hc2 i c hi⟩
  have hP : wtP x = x.id.length + wtS x.p + wtS x.a + wtS x.r + (x.conds.map fun c => wt c.2).sum := rfl
  unfold polTx
  simp only [List.length_append, List.length_cons, List.length_nil]
  omega
theorem polsT_len {F : Base} : ∀ {l : List Pol}, (∀ x ∈ l, ∃ cs, RepPol F cs x) → (polsT l).length ≤ 202 * wtQ l
  | [], _ => by simp [polsT]
  | x :: l, h => by
    obtain ⟨cs, hc⟩ := h x List.mem_cons_self
    have h1 := polTx_len hc
    have h3 := polsT_len (F := F) (l := l) fun c hc => h c (List.mem_cons_of_mem _ hc)
    simp only [polsT, wtQ, List.length_append, List.map_cons, List.sum_cons] at h3 ⊢
    omega
set_option maxHeartbeats 4000000 in
theorem policies_pure {F : Base} (hM : HasM F) (hS : HasSigns F) {v : Value} {l : List Pol} (hx : RepPols F v l) (hw : wtQ l ≤ 1048576) :
    PureV Tryd.prog F 11 #[v] (.tuple #[.string (bs (pols l).1), .int .i64 (pols l).2]) := by
  obtain ⟨al, cl, gl, rfl, hcl, hll, hc1, hc2⟩ := hx
  have hlen := polsT_len (F := F) (l := l) fun c hc => by
    obtain ⟨i, hi⟩ := List.getElem?_of_mem hc
    exact ⟨_, hc2 i c hi⟩
  refine pureV_of_svc mixed Tryd.func11 low11 (Nat.le_of_ble_eq_true rfl) (fun w0 => ?_)
  simp (disch := first | assumption | exact Ne.symm (by assumption) | omega) only [fu11, ↓ZD, ZU, ZR, Za, Zb, Zc, Zd, Ze, Zf, Zg, Zh, Zi, Zj, Zk, Zl, Zm, Zn, Zo, Zp, Zq, Zr, reduceIte, reduceCtorEq, Zs, Zt, Zu, Zv]
  refine NewB.of fun b hb hF => ?_
  simp (disch := first | assumption | exact Ne.symm (by assumption) | omega) only [hF, ↓ZD, ZU, ZR, Za, Zb, Zc, Zd, Ze, Zf, Zg, Zh, Zi, Zj, Zk, Zl, Zm, Zn, Zo, Zp, Zq, Zr, reduceIte, reduceCtorEq, Zs, Zt, Zu, Zv]
  refine LoopL.inv (α := Nat × Hp) (fun u => u.1 ≤ l.length ∧ (∀ c ∈ l.take u.1, polE c = 0) ∧ Pst F b (polsT (l.take u.1)) false u.2)
    (fun u => [(4, some (.pointer (some ⟨b, 0, none⟩))), (10, some (.slice al l.length cl)), (11, some (.int .i64 l.length)), (12, some (.int .i64 u.1))])
    (fun u => u.2) (fun u => l.length - u.1) (0, _) ⟨Nat.zero_le _, by simp, ⟨_, _, [], .inl rfl, .nil, by simp, hF, rfl⟩⟩ (by (simp only [Le_nil, Le_cons]; simp (disch := first | assumption | exact Ne.symm (by assumption) | omega) only [↓ZD, ZU, ZR, Za, Zb, Zc, Zd, Ze, Zf, Zg, Zh, Zi, Zj, Zk, Zl, Zm, Zn, Zo, Zp, Zq, Zr, reduceIte, reduceCtorEq, Zs, Zt, Zu, Zv]; try trivial)) (by simp [HLe, lk]) ?_
  rintro ⟨i, H⟩ ⟨hi, hz, hpi⟩
  simp only at hi hz hpi ⊢
  by_cases hlt : i < l.length
  · have hd : decide ((i : Int) < (l.length : Int)) = true := by simp; omega
    have gx : l[i]? = some (l.getD i nilP) := getDs _ hlt
    generalize l.getD i nilP = x at gx
    have hcm := wtQ_mem (List.mem_of_getElem? gx)
    have hle := polsT_take l i
    have hrep := hc2 i x gx
    obtain ⟨vp, va, vr, vc, e1, -, ⟨a1, c1, rfl, -⟩, ⟨a2, c2, rfl, -⟩, ⟨a3, c3, rfl, -⟩, ⟨ac, cc0, gc, rfl, -⟩⟩ := hc2 i x gx
    obtain ⟨ba, oa, rfl, hla⟩ := (hc1 i x gx).ldn
    rw [e1] at hla hrep
    simp only [pcells, scells, List.cons_append, List.nil_append] at hla hrep
    simp (disch := first | assumption | exact Ne.symm (by assumption) | omega) only [hd, Nat.mul_one, ↓ZD, ZU, ZR, Za, Zb, Zc, Zd, Ze, Zf, Zg, Zh, Zi, Zj, Zk, Zl, Zm, Zn, Zo, Zp, Zq, Zr, reduceIte, reduceCtorEq, Zs, Zt, Zu, Zv]
    refine conj.of (by omega) ?_
    simp (disch := first | assumption | exact Ne.symm (by assumption) | omega) only [hd, Int.toNat_natCast, ↓hla, ↓ZD, ZU, ZR, Za, Zb, Zc, Zd, Ze, Zf, Zg, Zh, Zi, Zj, Zk, Zl, Zm, Zn, Zo, Zp, Zq, Zr, reduceIte, reduceCtorEq, Zs, Zt, Zu, Zv]
    refine NewB.of fun b7 hb7 hF7 => ?_
    have hu : ∀ o, upd H b7 o = H := fun o => upd_new hb7
    simp (disch := first | assumption | exact Ne.symm (by assumption) | omega) only [hF7, hu, ↓ZD, ZU, ZR, Za, Zb, Zc, Zd, Ze, Zf, Zg, Zh, Zi, Zj, Zk, Zl, Zm, Zn, Zo, Zp, Zq, Zr, reduceIte, reduceCtorEq, Zs, Zt, Zu, Zv]
    refine CallE.does H [(b7, .cells #[Value.string (bs x.id), Value.bool x.permit, Value.int IntKind.i64 x.p.kind, Value.string (bs x.p.ty), Value.string (bs x.p.ut), Value.string (bs x.p.ui), Value.bool x.p.slot, Value.slice a1 x.p.list.length c1, Value.int IntKind.i64 x.a.kind, Value.string (bs x.a.ty), Value.string (bs x.a.ut), Value.string (bs x.a.ui), Value.bool x.a.slot, Value.slice a2 x.a.list.length c2, Value.int IntKind.i64 x.r.kind, Value.string (bs x.r.ty), Value.string (bs x.r.ut), Value.string (bs x.r.ui), Value.bool x.r.slot, Value.slice a3 x.r.list.length c3, Value.slice ac x.conds.length cc0] 44 (0, 0))] (policy_does _ (hM.mono le_up) (hS.mono le_up) b (polsT (l.take i)) (hrep.mono le_up) (by omega) (by omega) H (hpi.up (by simpa using hb7))) (fun _ _ h => h) (by simp +contextual) (by simp +contextual) (by simpa using hb7) ?_
    rintro _ H2 ⟨rfl, hp2⟩ h1 h2 h3
    simp only [List.forall_mem_cons, List.not_mem_nil, false_implies, implies_true, and_true] at h2
    by_cases hz0 : polE x = 0
    · have hnz : (polE x != 0) = false := by simp [hz0]
      have hp3 := (hp2 hz0).down
      simp (disch := first | assumption | exact Ne.symm (by assumption) | omega) only [hnz, ↓ZD, ZU, ZR, Za, Zb, Zc, Zd, Ze, Zf, Zg, Zh, Zi, Zj, Zk, Zl, Zm, Zn, Zo, Zp, Zq, Zr, reduceIte, reduceCtorEq, Zs, Zt, Zu, Zv]
      refine invK.on (i + 1, H2) ⟨by show i + 1 ≤ _; omega, ?_, hp3.cast (by rw [take_snoc gx, polsT_snoc]) rfl⟩ (by show _ - (i + 1) < _ - i; omega) ?_ (HLe_app hp3.lk h2)
      · intro c2 hc2
        rw [take_snoc gx] at hc2
        rcases List.mem_append.1 hc2 with h | h
        · exact hz c2 h
        · rw [List.mem_singleton.1 h]; exact hz0
      · simp only [Le_nil, Le_cons]; simp (disch := first | assumption | exact Ne.symm (by assumption) | omega) only [↓ZD, ZU, ZR, Za, Zb, Zc, Zd, Ze, Zf, Zg, Zh, Zi, Zj, Zk, Zl, Zm, Zn, Zo, Zp, Zq, Zr, reduceIte, reduceCtorEq, Zs, Zt, Zu, Zv]; first | done | trivial | rfl
    · have hnz : (polE x != 0) = true := by simp [hz0]
      have hE := polsE_at gx hz hz0
      simp (disch := first | assumption | exact Ne.symm (by assumption) | omega) only [hnz, ↓ZD, ZU, ZR, Za, Zb, Zc, Zd, Ze, Zf, Zg, Zh, Zi, Zj, Zk, Zl, Zm, Zn, Zo, Zp, Zq, Zr, reduceIte, reduceCtorEq, Zs, Zt, Zu, Zv]
      simp [pols, hE, hz0]
  · have hd : decide ((i : Int) < (l.length : Int)) = false := by simp; omega
    obtain rfl : i = l.length := by omega
    rw [List.take_length] at hpi hz
    simp (disch := first | assumption | exact Ne.symm (by assumption) | omega) only [hd, ↓ZD, ZU, ZR, Za, Zb, Zc, Zd, Ze, Zf, Zg, Zh, Zi, Zj, Zk, Zl, Zm, Zn, Zo, Zp, Zq, Zr, reduceIte, reduceCtorEq, Zs, Zt, Zu, Zv]
    have hp3 := hpi
    obtain ⟨p, v, Ho, hpp, ho, hd3, hFb, rfl⟩ := hpi
    refine CallE.does ((b, PrO p v false) :: Ho) [] (string_does _ b (polsT l) false hp3) (fun _ _ h => by unfold rdObj; rw [h]) (by simp +contextual) (by simp) (by simp) ?_
    rintro _ H3 rfl h1 h2 h3
    simp (disch := first | assumption | exact Ne.symm (by assumption) | omega) only [↓ZD, ZU, ZR, Za, Zb, Zc, Zd, Ze, Zf, Zg, Zh, Zi, Zj, Zk, Zl, Zm, Zn, Zo, Zp, Zq, Zr, reduceIte, reduceCtorEq, Zs, Zt, Zu, Zv]
    simp [pols, polsE_zero hz]
end Go.Proofs.YtoelfmmfjebabaaDoor
