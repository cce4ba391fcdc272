/- The law SchemaGraphs returns true whatever it is given, and what it was given reads behind the call as it read before. Condition: none beyond the given row's own. -/
import Derived.Test.YtnnieekbklmgdaaDoorRows
import Derived.WalkKit
import Derived.ProofKit
import Derived.OpenShut
import Derived.ShutString
import Derived.ChangeOld
import Derived.Below
import Derived.Carry
import Derived.Lay
import Derived.MakeChecks
import Derived.SevenTiedAt
import Derived.Stop.Joined
import Derived.Test.YtnnieekbklmgdaaDoorTie
import Derived.Test.YtnnieekbklmgdaaDoorCards
import Derived.Test.YtnnieekbklmgdaaDoorLaw
import Derived.Test.YtnnieekbklmgdaaDoorSyP
namespace Go.Proofs.YtnnieekbklmgdaaDoor
open Go Go.Eng
open Int renaming reduceEq → Zaa, reduceToNat → Zaw, reduceLE → Zax, reduceLT → Zay, reduceAdd → Zaz, reduceSub → Za0, reduceNeg → Za1, reducePow → Za3, reduceNegSucc → Za5
open UInt8 renaming reduceOfNat → Zab
open Go.Eng renaming subG → Zac, lit → Zad, isPar → Zae, numb → Zaf, Wf → Zag, resV → Zah, oneCell → Zai, isB → Zaj, asB → Zak
open List renaming mapM_cons → Zal, mapM_nil → Zam
open Go.Value renaming cells → Zan
open Nat renaming reduceAdd → Zao, reduceMul → Zap, reduceMod → Zaq, reduceDiv → Zar, reduceEqDiff → Zas, reduceBEq → Zat, reduceLeDiff → Zau, reduceSub → Zav, reducePow → Za2, reduceLT → Za4
set_option linter.unusedSimpArgs false
set_option linter.unusedVariables false
set_option maxRecDepth 20000

/-- Rows of rows of bytes. -/
def SlB (F : Base) (v : Value) (l : List Int) : Prop := ∃ a c, v = .slice a l.length c ∧ l.length ≤ c ∧ l.length ≤ 9223372036854775807 ∧ ∀ (i : Nat) (x : Int), l[i]? = some x → Cl F a 1 i [.int .u8 x] ∧ 0 ≤ x ∧ x ≤ 255
def SlW (F : Base) (v : Value) (l : List (List Int)) : Prop := ∃ (a : Option Addr) (c : Nat) (g : Nat → Value), v = .slice a l.length c ∧ l.length ≤ c ∧ l.length ≤ 9223372036854775807 ∧ ∀ (i : Nat) (x : List Int), l[i]? = some x → Cl F a 1 i [g i] ∧ SlB F (g i) x
theorem cellsB : Tryd.prog.cellsOf 50 = 1 := by kernel_rfl
theorem cellsU : Tryd.prog.cellsOf 5 = 1 := by kernel_rfl
section
variable {H : Type} {enc : TypeId × Value → H} {w : World} {spare : Nat → Bool} {held : Bool}
theorem open_bytes {fuel : Nat} {cs : List Value} {x : DataW H × List MemPlace} (h : DataW.trod enc Tryd.prog w 0 spare held fuel 50 cs = some x) : ∃ v l, cs = [v] ∧ SlB (fun b => w.heap[b]?) v l := by
  obtain ⟨a, l, c, g, e, hl, hc, _, h1, h2⟩ := open_slice (R := fun cs (n : Int) => cs = [.int .u8 n] ∧ 0 ≤ n ∧ n ≤ 255) Tryd.underlying50 cellsU (by omega) h (fun m cs' y hm hy => by
    obtain ⟨n, e0, _, hw⟩ := DataW.trod_int Tryd.underlying5 hy
    simp only [Lit.wf, Bool.and_eq_true, decide_eq_true_eq, show IntKind.u8.min = 0 from rfl, show IntKind.u8.max = 255 from rfl] at hw
    exact ⟨n, e0, hw⟩)
  rw [maxLen_eq] at hl
  exact ⟨_, l, e, a, c, rfl, hc, hl, fun i s hs => ⟨by rw [← (h2 i s hs).1]; exact h1 i s hs, (h2 i s hs).2⟩⟩
theorem open_ways (fuel : Nat) (cs : List Value) (x : DataW H × List MemPlace) (h : DataW.trod enc Tryd.prog w 0 spare held fuel 49 cs = some x) : ∃ v l, cs = [v] ∧ SlW (fun b => w.heap[b]?) v l := by
  obtain ⟨a, l, c, g, e, hl, hc, _, h1, h2⟩ := open_slice (R := fun cs (l : List Int) => ∃ v, cs = [v] ∧ SlB (fun b => w.heap[b]?) v l) Tryd.underlying49 cellsB (by omega) h (fun m cs' y hm hy => by
    obtain ⟨v, l, e, hv⟩ := open_bytes hy
    exact ⟨l, v, e, hv⟩)
  rw [maxLen_eq] at hl
  refine ⟨_, l, e, a, c, fun i => (g i).getD 0 undef, rfl, hc, hl, fun i s hs => ?_⟩
  obtain ⟨v, e1, hv⟩ := h2 i s hs
  have := h1 i s hs
  simp only [e1] at this ⊢
  exact ⟨this, hv⟩
end
abbrev abcL : Str := [97, 98, 99, 100, 101, 102, 103, 104]
def abc (n : Nat) : Str := (abcL.take (n + 1)).drop n
theorem abc_len (n : Nat) : (abc n).length ≤ 8 := by unfold abc; simp; omega
def stepW (x : Int) : List Str := if x % 9 < 8 then [abc (x % 9).toNat] else []
def innW (l : List Int) : List Str := l.flatMap stepW
def innN (l : List Int) : List Str := innW (l.take 6)
theorem innW_le (l : List Int) : (innW l).length ≤ 1 * l.length := flat_bound stepW 1 fun x _ => by unfold stepW; split <;> simp
theorem innW_mem {l : List Int} {y : Str} (h : y ∈ innW l) : y.length ≤ 8 := by
  obtain ⟨x, _, hx⟩ := List.mem_flatMap.1 h
  unfold stepW at hx
  split at hx
  · simp only [List.mem_singleton] at hx; rw [hx]; exact abc_len _
  · cases hx
def gAct (ws : List (List Int)) (i : Nat) : AC := ⟨abc i, innN (ws.getD i []), [], [], []⟩
def gSch (ws : List (List Int)) (n : Nat) : Sch := ⟨[], (List.range n).map (gAct ws)⟩
def acs (l : List (Str × Value)) : List Value := l.flatMap fun x => [.string (bs x.1), x.2, .slice none 0 0, .slice none 0 0, .slice none 0 0]
theorem acs_len (l : List (Str × Value)) : (acs l).length = l.length * 5 := by
  unfold acs
  induction l with
  | nil => rfl
  | cons x l ih => rw [List.flatMap_cons, List.length_append, ih]; simp; omega
theorem acs_get {l : List (Str × Value)} {k : Nat} {x : Str × Value} (h : l[k]? = some x) (sp : List Value) : ((acs l ++ sp).drop (k * 5)).take 5 = [.string (bs x.1), x.2, .slice none 0 0, .slice none 0 0, .slice none 0 0] := by
  induction l generalizing k with
  | nil => cases h
  | cons y l ih =>
    have e : acs (y :: l) ++ sp = .string (bs y.1) :: y.2 :: .slice none 0 0 :: .slice none 0 0 :: .slice none 0 0 :: (acs l ++ sp) := by unfold acs; rw [List.flatMap_cons]; rfl
    rw [e]
    rcases k with _ | k
    · simp only [List.getElem?_cons_zero, Option.some.injEq] at h
      subst h
      rfl
    · rw [List.getElem?_cons_succ] at h
      rw [show (k + 1) * 5 = k * 5 + 1 + 1 + 1 + 1 + 1 by omega]
      exact ih h
/-- Rows of actions that were built. -/
def Bld (G : Base) (ws : List (List Int)) (l : List (Str × Value)) : Prop := ∀ (k : Nat) (x : Str × Value), l[k]? = some x → x.1 = abc k ∧ SlS G x.2 (innN (ws.getD k []))
theorem gOk (ws : List (List Int)) {n : Nat} (h : n ≤ 8) : OkS (gSch ws n) := by
  have e : ((gSch ws n).acts.flatMap fun a => a.inn).length ≤ 6 * (gSch ws n).acts.length := flat_bound (fun a : AC => a.inn) 6 fun a ha => by
    obtain ⟨i, _, rfl⟩ := List.mem_map.1 ha
    have := innW_le ((ws.getD i []).take 6)
    simp only [List.length_take] at this
    unfold gAct innN
    simp only
    omega
  have e2 : (gSch ws n).acts.length = n := by unfold gSch; simp
  refine ⟨⟨by simp [gSch], by omega⟩, fun t ht => (by cases ht), fun a ha => ?_, by simp [gSch], by omega⟩
  obtain ⟨i, _, rfl⟩ := List.mem_map.1 ha
  exact (by decide : depth (.mk 8 [] [] []) ≤ 1000000)
theorem gRep {F : Base} {H : Hp} {ws : List (List Int)} {l : List (Str × Value)} {n : Nat} {v : Value} {Ho : Hp} (ho : OwnS F 5 37 (acs l) n v Ho) (hl : l.length = n) (hlk : ∀ e ∈ Ho, lk H e.1 = some e.2) (hb : Bld (rdObj F H) ws l) (hn : n ≤ 8) :
    ∃ a c, v = .slice a n c ∧ RepH (rdObj F H) [.slice none 0 0, v] (gSch ws n) := by
  have hlen : ((List.range n).map (gAct ws)).length = n := by simp
  have nS : SlS (rdObj F H) (.slice none 0 0) [] := ⟨_, 0, rfl, by simp, by simp, fun i x hx => by simp at hx, fun i x hx => by simp at hx⟩
  have nAt : SlA (rdObj F H) (.slice none 0 0) [] := ⟨_, 0, fun _ => [], rfl, by simp, by simp, ⟨fun i x hx => by simp at hx, fun i x hx => by simp at hx⟩, fun i x hx => by simp at hx⟩
  rcases ho.out with ⟨h1, rfl, rfl, rfl⟩ | ⟨b, cap, sp, rfl, rfl, hF, h1, h2, h3, h4⟩
  · refine ⟨none, 0, rfl, ?_⟩
    exact RepH.mk none none 0 0 [] [] (fun _ => []) (fun _ => []) (by simp) (by simp) (by simp) (by simp) (fun i x hx => by simp at hx) (fun i x hx => by simp at hx)
  · refine ⟨_, _, rfl, ?_⟩
    have := RepH.mk (F := rdObj F H) none (some ⟨b, 0, none⟩) 0 cap [] ((List.range n).map (gAct ws)) (fun _ => []) (fun k => ((acs l ++ sp).drop (k * 5)).take 5) (by simp) (by omega) (by simp) (by omega) (fun i x hx => by simp at hx) (fun k x hx => by
      have hk : k < n := by have := (List.getElem?_eq_some_iff.1 hx).1; omega
      have hx' : x = gAct ws k := by
        rw [List.getElem?_map, List.getElem?_range hk] at hx
        simpa using hx.symm
      subst hx'
      have hlk2 : l[k]? = some l[k] := List.getElem?_eq_getElem (by omega)
      have hg := acs_get hlk2 sp
      obtain ⟨e1, e2⟩ := hb k _ hlk2
      refine ⟨⟨b, 0, _, _, _, rfl, by unfold rdObj; rw [hF]; exact hlk _ (List.mem_singleton.2 rfl), ?_, by rw [Nat.zero_add, List.toList_toArray]⟩, ?_⟩
      · rw [List.size_toArray, List.length_append, h1]; omega
      · show RepC (rdObj F H) (((acs l ++ sp).drop (k * 5)).take 5) (gAct ws k)
        rw [hg, e1]
        exact ⟨_, _, _, _, rfl, Nat.le_trans (abc_len k) (by omega), e2, nS, nS, nAt⟩)
    rw [hlen] at this
    exact this
theorem graphs_law (F : Base) (hg : HasM F) {v0 : Value} {ws : List (List Int)} (hw : SlW F v0 ws) (a b : Int) (ha0 : 0 ≤ a) (ha1 : a ≤ 255) (hb0 : 0 ≤ b) (hb1 : b ≤ 255) :
    PureV Tryd.prog F 6 #[v0, .int .u8 a, .int .u8 b] (.bool true) := by
  have haw := awake_pure F hg
  obtain ⟨aw, cw, gw, rfl, hwc, hwl, hws⟩ := hw
  refine pureV_of_svc mixed Tryd.func6 low6 (Nat.le_of_ble_eq_true rfl) (fun w0 => ?_)
  simp (disch := first | assumption | exact Ne.symm (by assumption) | omega) only [fu6, ↓ZD, ZU, ne_eq, Zaa, Zab, false_implies, Zac, Zad, Zae, Zaf, Zag, Zah, Zai, Zaj, Zak, Zal, Zam, Zan, Zao, Zap, Zaq, Zar, Zas, Zat, Zau, Zav, Zaw, Zax, Zay, Zaz, Za0, Za1, decide_true, decide_false, beq_self_eq_true, cond_true, cond_false, if_false, if_true, reduceIte, reduceCtorEq, not_true_eq_false, not_false_eq_true, true_and, and_true, forall_const, false_and, and_false, implies_true, Za2, Za3, Za4, Za5]
  refine CallE.pure haw ?_
  simp (disch := first | assumption | exact Ne.symm (by assumption) | omega) only [↓ZD, ZU, ne_eq, Zaa, Zab, false_implies, Zac, Zad, Zae, Zaf, Zag, Zah, Zai, Zaj, Zak, Zal, Zam, Zan, Zao, Zap, Zaq, Zar, Zas, Zat, Zau, Zav, Zaw, Zax, Zay, Zaz, Za0, Za1, decide_true, decide_false, beq_self_eq_true, cond_true, cond_false, if_false, if_true, reduceIte, reduceCtorEq, not_true_eq_false, not_false_eq_true, true_and, and_true, forall_const, false_and, and_false, implies_true, Za2, Za3, Za4, Za5]
  refine NewB.of fun b8 hb8 hF8 => ?_
  simp (disch := first | assumption | exact Ne.symm (by assumption) | omega) only [↓ZD, ZU, ne_eq, Zaa, Zab, false_implies, Zac, Zad, Zae, Zaf, Zag, Zah, Zai, Zaj, Zak, Zal, Zam, Zan, Zao, Zap, Zaq, Zar, Zas, Zat, Zau, Zav, Zaw, Zax, Zay, Zaz, Za0, Za1, decide_true, decide_false, beq_self_eq_true, cond_true, cond_false, if_false, if_true, reduceIte, reduceCtorEq, not_true_eq_false, not_false_eq_true, true_and, and_true, forall_const, false_and, and_false, implies_true, Za2, Za3, Za4, Za5]
  refine LoopL.inv (α := Nat × Value × List (Str × Value) × Hp × Hp) (fun z => z.1 ≤ ws.length ∧ z.1 ≤ 8 ∧ OwnS F 5 37 (acs z.2.2.1) z.1 z.2.1 z.2.2.2.1 ∧ z.2.2.1.length = z.1 ∧ Bld (rdObj F z.2.2.2.2) ws z.2.2.1 ∧ Okh z.2.2.2.2 ∧ (∀ e ∈ z.2.2.2.1, e.1 ≠ b8) ∧ (∀ e ∈ z.2.2.2.2, e.1 ≠ b8) ∧ ∀ e' ∈ z.2.2.2.2, ∀ e ∈ z.2.2.2.1, e.1 ≠ e'.1)
    (fun z => [(0, some (.slice aw ws.length cw)), (1, some (.int .u8 a)), (2, some (.int .u8 b)), (8, some (.pointer (some ⟨b8, 0, none⟩))), (9, some (.int .i64 z.1))])
    (fun z => (b8, .cells #[.slice none 0 0, z.2.1] 25 (0, 0)) :: (z.2.2.2.2 ++ z.2.2.2.1)) (fun z => ws.length - z.1) (0, .slice none 0 0, [], [], []) ⟨Nat.zero_le _, by simp only; omega, .nil, rfl, fun k x hx => (by simp at hx), Okh.nil, fun e he => (by cases he), fun e he => (by cases he), fun e' he' => (by cases he')⟩ (by (simp only [Le_nil, Le_cons]; simp (disch := first | assumption | exact Ne.symm (by assumption) | omega) only [↓ZD, ZU, ne_eq, Zaa, Zab, false_implies, Zac, Zad, Zae, Zaf, Zag, Zah, Zai, Zaj, Zak, Zal, Zam, Zan, Zao, Zap, Zaq, Zar, Zas, Zat, Zau, Zav, Zaw, Zax, Zay, Zaz, Za0, Za1, decide_true, decide_false, beq_self_eq_true, cond_true, cond_false, if_false, if_true, reduceIte, reduceCtorEq, not_true_eq_false, not_false_eq_true, true_and, and_true, forall_const, false_and, and_false, implies_true, Za2, Za3, Za4, Za5]; try trivial)) ⟨by simp (disch := first | assumption | exact Ne.symm (by assumption) | omega) only [↓ZD, ZU, ne_eq, Zaa, Zab, false_implies, Zac, Zad, Zae, Zaf, Zag, Zah, Zai, Zaj, Zak, Zal, Zam, Zan, Zao, Zap, Zaq, Zar, Zas, Zat, Zau, Zav, Zaw, Zax, Zay, Zaz, Za0, Za1, decide_true, decide_false, beq_self_eq_true, cond_true, cond_false, if_false, if_true, reduceIte, reduceCtorEq, not_true_eq_false, not_false_eq_true, true_and, and_true, forall_const, false_and, and_false, implies_true, Za2, Za3, Za4, Za5], trivial⟩ ?_
  rintro ⟨i, v, l, Ho, Hin⟩ ⟨hi, hi8, ho, hll, hbl, hoi, hob, hib, hio⟩
  simp only at hi hi8 ho hll hbl hoi hob hib hio
  have hok : Okh (Hin ++ Ho) := Okh.app hoi (okh_own ho) hio
  have hab : ∀ e ∈ Hin ++ Ho, e.1 ≠ b8 := fun e he => by
    rcases List.mem_append.1 he with h | h
    · exact hib e h
    · exact hob e h
  by_cases hlt : i < ws.length ∧ i < 8
  · have hd : (decide ((i : Int) < (ws.length : Int)) && decide ((i : Int) < 8)) = true := by simp; omega
    have gx : ws[i]? = some (ws.getD i []) := by rw [List.getD_eq_getElem?_getD, List.getElem?_eq_getElem hlt.1]; rfl
    obtain ⟨hcl, aw2, cw2, hgi, hwc2, hwl2, hws2⟩ := hws i _ gx
    rw [hgi] at hcl
    obtain ⟨ba, oa, rfl, hla⟩ := hcl.ld1
    simp only [Nat.mul_one] at hla
    simp (disch := first | assumption | exact Ne.symm (by assumption) | omega) only [hd, Int.toNat_natCast, ↓ZD, ZU, ne_eq, Zaa, Zab, false_implies, Zac, Zad, Zae, Zaf, Zag, Zah, Zai, Zaj, Zak, Zal, Zam, Zan, Zao, Zap, Zaq, Zar, Zas, Zat, Zau, Zav, Zaw, Zax, Zay, Zaz, Za0, Za1, decide_true, decide_false, beq_self_eq_true, cond_true, cond_false, if_false, if_true, reduceIte, reduceCtorEq, not_true_eq_false, not_false_eq_true, true_and, and_true, forall_const, false_and, and_false, implies_true, Za2, Za3, Za4, Za5]
    refine conj.of (by omega) ?_
    simp (disch := first | assumption | exact Ne.symm (by assumption) | omega) only [hd, Int.toNat_natCast, ↓ZD, ZU, ne_eq, Zaa, Zab, false_implies, Zac, Zad, Zae, Zaf, Zag, Zah, Zai, Zaj, Zak, Zal, Zam, Zan, Zao, Zap, Zaq, Zar, Zas, Zat, Zau, Zav, Zaw, Zax, Zay, Zaz, Za0, Za1, decide_true, decide_false, beq_self_eq_true, cond_true, cond_false, if_false, if_true, reduceIte, reduceCtorEq, not_true_eq_false, not_false_eq_true, true_and, and_true, forall_const, false_and, and_false, implies_true, Za2, Za3, Za4, Za5]
    refine NewB.of fun b10 hb10 hF10 => ?_
    simp only [List.forall_mem_cons] at hb10
    obtain ⟨h108, hb10⟩ := hb10
    have hup10 : ∀ o, upd (Hin ++ Ho) b10 o = Hin ++ Ho := fun o => upd_new hb10
    have eabc : List.drop i (97 :: List.take i [98, 99, 100, 101, 102, 103, 104]) = abc i := rfl
    have eti : ((i : Int) + 1).toNat = i + 1 := by omega
    simp (disch := first | assumption | exact Ne.symm (by assumption) | omega) only [hF10, hup10, eti, eabc, ↓ZD, ZU, ne_eq, Zaa, Zab, false_implies, Zac, Zad, Zae, Zaf, Zag, Zah, Zai, Zaj, Zak, Zal, Zam, Zan, Zao, Zap, Zaq, Zar, Zas, Zat, Zau, Zav, Zaw, Zax, Zay, Zaz, Za0, Za1, decide_true, decide_false, beq_self_eq_true, cond_true, cond_false, if_false, if_true, reduceIte, reduceCtorEq, not_true_eq_false, not_false_eq_true, true_and, and_true, forall_const, false_and, and_false, implies_true, Za2, Za3, Za4, Za5]
    have hokb : Okh (Hin ++ Ho) := hok
    have habb : ∀ e ∈ Hin ++ Ho, e.1 ≠ b8 := hab
    have hb10' : ∀ e ∈ Hin ++ Ho, e.1 ≠ b10 := hb10
    obtain ⟨HB, hHB⟩ : ∃ HB : Hp, HB = Hin ++ Ho := ⟨_, rfl⟩
    rw [← hHB] at hokb habb hb10' ⊢
    have hlim : (ws.getD i []).length ≤ 9223372036854775807 := hwl2
    generalize hW : ws.getD i [] = W at *
    refine LoopL.inv (α := Nat × Value × Hp) (fun z => z.1 ≤ W.length ∧ z.1 ≤ 6 ∧ OwnS F 1 9 (strs (innW (W.take z.1))) (innW (W.take z.1)).length z.2.1 z.2.2 ∧ (∀ e ∈ z.2.2, e.1 ≠ b10) ∧ (∀ e ∈ z.2.2, e.1 ≠ b8) ∧ ∀ e' ∈ HB, ∀ e ∈ z.2.2, e.1 ≠ e'.1)
      (fun z => [(0, some (.slice (some ⟨ba, oa, none⟩) ws.length cw)), (1, some (.int .u8 a)), (2, some (.int .u8 b)), (8, some (.pointer (some ⟨b8, 0, none⟩))), (9, some (.int .i64 i)), (10, some (.pointer (some ⟨b10, 0, none⟩))), (11, some (.int .i64 z.1))])
      (fun z => (b10, .cells #[.string (bs (abc i)), z.2.1, .slice none 0 0, .slice none 0 0, .slice none 0 0] 37 (0, 0)) :: (b8, .cells #[.slice none 0 0, v] 25 (0, 0)) :: (HB ++ z.2.2)) (fun z => W.length - z.1) (0, .slice none 0 0, []) ⟨Nat.zero_le _, by simp only; omega, .nil, fun e he => (by cases he), fun e he => (by cases he), fun e' he' e he => (by cases he)⟩ (by (simp only [Le_nil, Le_cons]; simp (disch := first | assumption | exact Ne.symm (by assumption) | omega) only [↓ZD, ZU, ne_eq, Zaa, Zab, false_implies, Zac, Zad, Zae, Zaf, Zag, Zah, Zai, Zaj, Zak, Zal, Zam, Zan, Zao, Zap, Zaq, Zar, Zas, Zat, Zau, Zav, Zaw, Zax, Zay, Zaz, Za0, Za1, decide_true, decide_false, beq_self_eq_true, cond_true, cond_false, if_false, if_true, reduceIte, reduceCtorEq, not_true_eq_false, not_false_eq_true, true_and, and_true, forall_const, false_and, and_false, implies_true, Za2, Za3, Za4, Za5]; try trivial)) ⟨by simp (disch := first | assumption | exact Ne.symm (by assumption) | omega) only [↓ZD, ZU, ne_eq, Zaa, Zab, false_implies, Zac, Zad, Zae, Zaf, Zag, Zah, Zai, Zaj, Zak, Zal, Zam, Zan, Zao, Zap, Zaq, Zar, Zas, Zat, Zau, Zav, Zaw, Zax, Zay, Zaz, Za0, Za1, decide_true, decide_false, beq_self_eq_true, cond_true, cond_false, if_false, if_true, reduceIte, reduceCtorEq, not_true_eq_false, not_false_eq_true, true_and, and_true, forall_const, false_and, and_false, implies_true, Za2, Za3, Za4, Za5], by simp (disch := first | assumption | exact Ne.symm (by assumption) | omega) only [↓ZD, ZU, ne_eq, Zaa, Zab, false_implies, Zac, Zad, Zae, Zaf, Zag, Zah, Zai, Zaj, Zak, Zal, Zam, Zan, Zao, Zap, Zaq, Zar, Zas, Zat, Zau, Zav, Zaw, Zax, Zay, Zaz, Za0, Za1, decide_true, decide_false, beq_self_eq_true, cond_true, cond_false, if_false, if_true, reduceIte, reduceCtorEq, not_true_eq_false, not_false_eq_true, true_and, and_true, forall_const, false_and, and_false, implies_true, Za2, Za3, Za4, Za5], ?_⟩ ?_
    · simp only [List.append_nil]
      refine HLe.of (Okh.lk (A := [_, _]) hokb ?_)
      simp only [List.forall_mem_cons]
      exact ⟨hb10', habb, fun e he => by cases he⟩
    rintro ⟨k, vI, Hi⟩ ⟨hk, hk6, hoI, hI10, hI8, hIB⟩
    simp only at hk hk6 hoI hI10 hI8 hIB
    have hokI := Okh.app hokb (okh_own hoI) hIB
    have h10I : ∀ e ∈ HB ++ Hi, e.1 ≠ b10 := fun e he => by
      rcases List.mem_append.1 he with h | h
      · exact hb10' e h
      · exact hI10 e h
    have h8I : ∀ e ∈ HB ++ Hi, e.1 ≠ b8 := fun e he => by
      rcases List.mem_append.1 he with h | h
      · exact habb e h
      · exact hI8 e h
    have hself2 := Okh.cons (b := b10) (o := .cells #[.string (bs (abc i)), vI, .slice none 0 0, .slice none 0 0, .slice none 0 0] 37 (0, 0)) (Okh.cons (b := b8) (o := .cells #[.slice none 0 0, v] 25 (0, 0)) hokI h8I) (by simp only [List.forall_mem_cons]; exact ⟨h108, h10I⟩)
    by_cases hkl : k < W.length ∧ k < 6
    · have hdk : (decide ((k : Int) < (W.length : Int)) && decide ((k : Int) < 6)) = true := by simp; omega
      have gk : W[k]? = some (W.getD k 0) := by rw [List.getD_eq_getElem?_getD, List.getElem?_eq_getElem hkl.1]; rfl
      obtain ⟨hck, hx0, hx1⟩ := hws2 k _ gk
      obtain ⟨bk, ok, rfl, hlk⟩ := hck.ld1
      simp only [Nat.mul_one] at hlk
      have htk := take_snoc gk
      have hsnoc : innW (W.take (k + 1)) = innW (W.take k) ++ stepW (W.getD k 0) := by rw [htk]; unfold innW; rw [List.flatMap_append]; simp
      unfold stepW at hsnoc
      generalize W.getD k 0 = x at *
      obtain ⟨n, hn9⟩ : ∃ n : Nat, x % 9 = n := ⟨(x % 9).toNat, by omega⟩
      have hn8 : n ≤ 8 := by omega
      rw [hn9] at hsnoc
      simp (disch := first | assumption | exact Ne.symm (by assumption) | omega) only [hdk, Nat.mul_one, ↓ZD, ZU, ne_eq, Zaa, Zab, false_implies, Zac, Zad, Zae, Zaf, Zag, Zah, Zai, Zaj, Zak, Zal, Zam, Zan, Zao, Zap, Zaq, Zar, Zas, Zat, Zau, Zav, Zaw, Zax, Zay, Zaz, Za0, Za1, decide_true, decide_false, beq_self_eq_true, cond_true, cond_false, if_false, if_true, reduceIte, reduceCtorEq, not_true_eq_false, not_false_eq_true, true_and, and_true, forall_const, false_and, and_false, implies_true, Za2, Za3, Za4, Za5]
      refine conj.of (by omega) ?_
      simp (disch := first | assumption | exact Ne.symm (by assumption) | omega) only [hdk, Nat.mul_one, Int.toNat_natCast, ↓hla, ↓ZD, ZU, ne_eq, Zaa, Zab, false_implies, Zac, Zad, Zae, Zaf, Zag, Zah, Zai, Zaj, Zak, Zal, Zam, Zan, Zao, Zap, Zaq, Zar, Zas, Zat, Zau, Zav, Zaw, Zax, Zay, Zaz, Za0, Za1, decide_true, decide_false, beq_self_eq_true, cond_true, cond_false, if_false, if_true, reduceIte, reduceCtorEq, not_true_eq_false, not_false_eq_true, true_and, and_true, forall_const, false_and, and_false, implies_true, Za2, Za3, Za4, Za5]
      refine conj.of (by omega) ?_
      simp (disch := first | assumption | exact Ne.symm (by assumption) | omega) only [hdk, Nat.mul_one, Int.toNat_natCast, ↓hla, ↓hlk, hn9, ↓ZD, ZU, ne_eq, Zaa, Zab, false_implies, Zac, Zad, Zae, Zaf, Zag, Zah, Zai, Zaj, Zak, Zal, Zam, Zan, Zao, Zap, Zaq, Zar, Zas, Zat, Zau, Zav, Zaw, Zax, Zay, Zaz, Za0, Za1, decide_true, decide_false, beq_self_eq_true, cond_true, cond_false, if_false, if_true, reduceIte, reduceCtorEq, not_true_eq_false, not_false_eq_true, true_and, and_true, forall_const, false_and, and_false, implies_true, Za2, Za3, Za4, Za5]
      refine conj.of (by omega) ?_
      simp (disch := first | assumption | exact Ne.symm (by assumption) | omega) only [hdk, Nat.mul_one, Int.toNat_natCast, ↓hla, ↓hlk, hn9, ↓ZD, ZU, ne_eq, Zaa, Zab, false_implies, Zac, Zad, Zae, Zaf, Zag, Zah, Zai, Zaj, Zak, Zal, Zam, Zan, Zao, Zap, Zaq, Zar, Zas, Zat, Zau, Zav, Zaw, Zax, Zay, Zaz, Za0, Za1, decide_true, decide_false, beq_self_eq_true, cond_true, cond_false, if_false, if_true, reduceIte, reduceCtorEq, not_true_eq_false, not_false_eq_true, true_and, and_true, forall_const, false_and, and_false, implies_true, Za2, Za3, Za4, Za5]
      refine ⟨fun h8 => ?_, fun h8 => ?_⟩
      · have h8' : (n : Int) < 8 := of_decide_eq_true h8
        rw [if_pos h8'] at hsnoc
        simp only [Int.toNat_natCast] at hsnoc
        refine conj.of (by omega) ?_
        have eabn : List.drop n (97 :: List.take n [98, 99, 100, 101, 102, 103, 104]) = abc n := rfl
        have etn : ((n : Int) + 1).toNat = n + 1 := by omega
        simp (disch := first | assumption | exact Ne.symm (by assumption) | omega) only [etn, eabn, Int.toNat_natCast, ↓ZD, ZU, ne_eq, Zaa, Zab, false_implies, Zac, Zad, Zae, Zaf, Zag, Zah, Zai, Zaj, Zak, Zal, Zam, Zan, Zao, Zap, Zaq, Zar, Zas, Zat, Zau, Zav, Zaw, Zax, Zay, Zaz, Za0, Za1, decide_true, decide_false, beq_self_eq_true, cond_true, cond_false, if_false, if_true, reduceIte, reduceCtorEq, not_true_eq_false, not_false_eq_true, true_and, and_true, forall_const, false_and, and_false, implies_true, Za2, Za3, Za4, Za5]
        refine NewB.of fun b11 hb11 hF11 => ?_
        simp only [List.forall_mem_cons] at hb11
        obtain ⟨hb1110, hb118, hb11⟩ := hb11
        simp (disch := first | assumption | exact Ne.symm (by assumption) | omega) only [↓ZD, ZU, ne_eq, Zaa, Zab, false_implies, Zac, Zad, Zae, Zaf, Zag, Zah, Zai, Zaj, Zak, Zal, Zam, Zan, Zao, Zap, Zaq, Zar, Zas, Zat, Zau, Zav, Zaw, Zax, Zay, Zaz, Za0, Za1, decide_true, decide_false, beq_self_eq_true, cond_true, cond_false, if_false, if_true, reduceIte, reduceCtorEq, not_true_eq_false, not_false_eq_true, true_and, and_true, forall_const, false_and, and_false, implies_true, Za2, Za3, Za4, Za5]
        have hle : (innW (W.take (k + 1))).length = (innW (W.take k)).length + 1 := by rw [hsnoc]; simp
        have hlen6 := innW_le (W.take k)
        rw [List.length_take] at hlen6
        refine EfL.grow (Hr := (b10, .cells #[.string (bs (abc i)), vI, .slice none 0 0, .slice none 0 0, .slice none 0 0] 37 (0, 0)) :: (b8, .cells #[.slice none 0 0, v] 25 (0, 0)) :: HB) (m := 1) (nw := [.string (bs (abc n))]) hoI ?_ ?_ ?_ ?_ rfl (by simp [oneCell]) (by simp) (by omega) ?_
        · intro e he
          refine (Okh.lk (A := [_, _, _]) hokI ?_) e (List.mem_append_right _ he)
          simp only [List.forall_mem_cons]
          exact ⟨hb11, h10I, h8I, fun e he => by cases he⟩
        · intro e he
          simp only [List.mem_cons, List.mem_append] at he ⊢
          rcases he with h | h | h <;> simp [h]
        · simp only [List.forall_mem_cons]
          exact ⟨hI10, hI8, hIB⟩
        · simp (disch := first | assumption | exact Ne.symm (by assumption) | omega) only [hF11, ↓ZD, ZU, ne_eq, Zaa, Zab, false_implies, Zac, Zad, Zae, Zaf, Zag, Zah, Zai, Zaj, Zak, Zal, Zam, Zan, Zao, Zap, Zaq, Zar, Zas, Zat, Zau, Zav, Zaw, Zax, Zay, Zaz, Za0, Za1, decide_true, decide_false, beq_self_eq_true, cond_true, cond_false, if_false, if_true, reduceIte, reduceCtorEq, not_true_eq_false, not_false_eq_true, true_and, and_true, forall_const, false_and, and_false, implies_true, Za2, Za3, Za4, Za5]
        · intro b4 cap4 sp4 hs4 hc4 hm4 hF4 hne4
          simp only [List.forall_mem_cons] at hne4
          obtain ⟨n410, n48, n4B⟩ := hne4
          have hupB : ∀ o, upd HB b10 o = HB := fun o => upd_new hb10'
          simp (disch := first | assumption | exact Ne.symm (by assumption) | omega) only [hupB, ↓ZD, ZU, ne_eq, Zaa, Zab, false_implies, Zac, Zad, Zae, Zaf, Zag, Zah, Zai, Zaj, Zak, Zal, Zam, Zan, Zao, Zap, Zaq, Zar, Zas, Zat, Zau, Zav, Zaw, Zax, Zay, Zaz, Za0, Za1, decide_true, decide_false, beq_self_eq_true, cond_true, cond_false, if_false, if_true, reduceIte, reduceCtorEq, not_true_eq_false, not_false_eq_true, true_and, and_true, forall_const, false_and, and_false, implies_true, Za2, Za3, Za4, Za5]
          refine invK.on (k + 1, .slice (some ⟨b4, 0, none⟩) ((innW (W.take k)).length + 1) cap4, [(b4, .cells (strs (innW (W.take k)) ++ ([.string (bs (abc n))] : List Value) ++ sp4).toArray 9 (0, 0))]) ⟨by simp only; omega, by simp only; omega, OwnS.mk sp4 hF4 (by rw [hsnoc]; simp [strs]) (by simp only [hle]) (by simp only [hle]; rw [hsnoc]; simp [strs]) (by simp only [hle]; exact hs4) (by simp only [hle]; exact hc4) hm4, ?_, ?_, ?_⟩ (by simp only; omega) (by (simp only [Le_nil, Le_cons]; simp (disch := first | assumption | exact Ne.symm (by assumption) | omega) only [↓ZD, ZU, ne_eq, Zaa, Zab, false_implies, Zac, Zad, Zae, Zaf, Zag, Zah, Zai, Zaj, Zak, Zal, Zam, Zan, Zao, Zap, Zaq, Zar, Zas, Zat, Zau, Zav, Zaw, Zax, Zay, Zaz, Za0, Za1, decide_true, decide_false, beq_self_eq_true, cond_true, cond_false, if_false, if_true, reduceIte, reduceCtorEq, not_true_eq_false, not_false_eq_true, true_and, and_true, forall_const, false_and, and_false, implies_true, Za2, Za3, Za4, Za5]; try trivial)) ⟨by simp (disch := first | assumption | exact Ne.symm (by assumption) | omega) only [↓ZD, ZU, ne_eq, Zaa, Zab, false_implies, Zac, Zad, Zae, Zaf, Zag, Zah, Zai, Zaj, Zak, Zal, Zam, Zan, Zao, Zap, Zaq, Zar, Zas, Zat, Zau, Zav, Zaw, Zax, Zay, Zaz, Za0, Za1, decide_true, decide_false, beq_self_eq_true, cond_true, cond_false, if_false, if_true, reduceIte, reduceCtorEq, not_true_eq_false, not_false_eq_true, true_and, and_true, forall_const, false_and, and_false, implies_true, Za2, Za3, Za4, Za5], by simp (disch := first | assumption | exact Ne.symm (by assumption) | omega) only [↓ZD, ZU, ne_eq, Zaa, Zab, false_implies, Zac, Zad, Zae, Zaf, Zag, Zah, Zai, Zaj, Zak, Zal, Zam, Zan, Zao, Zap, Zaq, Zar, Zas, Zat, Zau, Zav, Zaw, Zax, Zay, Zaz, Za0, Za1, decide_true, decide_false, beq_self_eq_true, cond_true, cond_false, if_false, if_true, reduceIte, reduceCtorEq, not_true_eq_false, not_false_eq_true, true_and, and_true, forall_const, false_and, and_false, implies_true, Za2, Za3, Za4, Za5], HLe.of ?_⟩
          · intro e he
            simp only [List.mem_singleton] at he
            subst he
            exact fun h => n410 h.symm
          · intro e he
            simp only [List.mem_singleton] at he
            subst he
            exact fun h => n48 h.symm
          · intro e' he' e he
            simp only [List.mem_singleton] at he
            subst he
            exact fun h => n4B _ he' h.symm
          · intro e he
            have hok5 : Okh (HB ++ [(b4, (.cells (strs (innW (W.take k)) ++ ([.string (bs (abc n))] : List Value) ++ sp4).toArray 9 (0, 0) : Obj))]) := Okh.app hokb (Okh.nil.cons fun e he => (by cases he)) (fun e' he' e he => by
              obtain rfl := List.mem_singleton.1 he
              exact fun h => n4B _ he' h.symm)
            simp only at he
            rcases List.mem_append.1 he with h | h
            · rw [lk_ne (fun hh => n4B _ h hh.symm), lk_ne (fun hh => hb10' _ h hh.symm), lk_ne (fun hh => habb _ h hh.symm)]
              exact hokb e h
            · obtain rfl := List.mem_singleton.1 h
              simp (disch := first | assumption | exact Ne.symm (by assumption) | omega) only [↓ZD, ZU, ne_eq, Zaa, Zab, false_implies, Zac, Zad, Zae, Zaf, Zag, Zah, Zai, Zaj, Zak, Zal, Zam, Zan, Zao, Zap, Zaq, Zar, Zas, Zat, Zau, Zav, Zaw, Zax, Zay, Zaz, Za0, Za1, decide_true, decide_false, beq_self_eq_true, cond_true, cond_false, if_false, if_true, reduceIte, reduceCtorEq, not_true_eq_false, not_false_eq_true, true_and, and_true, forall_const, false_and, and_false, implies_true, Za2, Za3, Za4, Za5]
      · have h8' : ¬ (n : Int) < 8 := of_decide_eq_false h8
        rw [if_neg h8', List.append_nil] at hsnoc
        refine invK.on (k + 1, vI, Hi) ⟨by simp only; omega, by simp only; omega, by simp only [hsnoc]; exact hoI, hI10, hI8, hIB⟩ (by simp only; omega) (by (simp only [Le_nil, Le_cons]; simp (disch := first | assumption | exact Ne.symm (by assumption) | omega) only [↓ZD, ZU, ne_eq, Zaa, Zab, false_implies, Zac, Zad, Zae, Zaf, Zag, Zah, Zai, Zaj, Zak, Zal, Zam, Zan, Zao, Zap, Zaq, Zar, Zas, Zat, Zau, Zav, Zaw, Zax, Zay, Zaz, Za0, Za1, decide_true, decide_false, beq_self_eq_true, cond_true, cond_false, if_false, if_true, reduceIte, reduceCtorEq, not_true_eq_false, not_false_eq_true, true_and, and_true, forall_const, false_and, and_false, implies_true, Za2, Za3, Za4, Za5]; try trivial)) ?_
        exact HLe.of hself2
    · have hdk : (decide ((k : Int) < (W.length : Int)) && decide ((k : Int) < 6)) = false := by simp; omega
      have htk : W.take k = W.take 6 := by
        rcases Nat.lt_or_ge k 6 with h | h
        · have : k = W.length := by omega
          rw [this, List.take_length, List.take_of_length_le (by omega)]
        · rw [show k = 6 by omega]
      simp (disch := first | assumption | exact Ne.symm (by assumption) | omega) only [hdk, Nat.mul_one, ↓ZD, ZU, ne_eq, Zaa, Zab, false_implies, Zac, Zad, Zae, Zaf, Zag, Zah, Zai, Zaj, Zak, Zal, Zam, Zan, Zao, Zap, Zaq, Zar, Zas, Zat, Zau, Zav, Zaw, Zax, Zay, Zaz, Za0, Za1, decide_true, decide_false, beq_self_eq_true, cond_true, cond_false, if_false, if_true, reduceIte, reduceCtorEq, not_true_eq_false, not_false_eq_true, true_and, and_true, forall_const, false_and, and_false, implies_true, Za2, Za3, Za4, Za5]
      refine conj.of (by omega) ?_
      simp (disch := first | assumption | exact Ne.symm (by assumption) | omega) only [hdk, Nat.mul_one, Int.toNat_natCast, ↓hla, ↓ZD, ZU, ne_eq, Zaa, Zab, false_implies, Zac, Zad, Zae, Zaf, Zag, Zah, Zai, Zaj, Zak, Zal, Zam, Zan, Zao, Zap, Zaq, Zar, Zas, Zat, Zau, Zav, Zaw, Zax, Zay, Zaz, Za0, Za1, decide_true, decide_false, beq_self_eq_true, cond_true, cond_false, if_false, if_true, reduceIte, reduceCtorEq, not_true_eq_false, not_false_eq_true, true_and, and_true, forall_const, false_and, and_false, implies_true, Za2, Za3, Za4, Za5]
      refine NewB.of fun b12 hb12 hF12 => ?_
      simp only [List.forall_mem_cons] at hb12
      obtain ⟨hb1210, hb128, hb12⟩ := hb12
      simp (disch := first | assumption | exact Ne.symm (by assumption) | omega) only [↓ZD, ZU, ne_eq, Zaa, Zab, false_implies, Zac, Zad, Zae, Zaf, Zag, Zah, Zai, Zaj, Zak, Zal, Zam, Zan, Zao, Zap, Zaq, Zar, Zas, Zat, Zau, Zav, Zaw, Zax, Zay, Zaz, Za0, Za1, decide_true, decide_false, beq_self_eq_true, cond_true, cond_false, if_false, if_true, reduceIte, reduceCtorEq, not_true_eq_false, not_false_eq_true, true_and, and_true, forall_const, false_and, and_false, implies_true, Za2, Za3, Za4, Za5]
      subst hHB
      have hI10' : ∀ e ∈ Hin ++ Hi, e.1 ≠ b10 := fun e he => by
        rcases List.mem_append.1 he with h | h
        · exact hb10' e (List.mem_append_left _ h)
        · exact hI10 e h
      have hI8' : ∀ e ∈ Hin ++ Hi, e.1 ≠ b8 := fun e he => by
        rcases List.mem_append.1 he with h | h
        · exact hib e h
        · exact hI8 e h
      have hokII : Okh (Hin ++ Hi) := Okh.app hoi (okh_own hoI) (fun e' he' e he => hIB e' (List.mem_append_left _ he') e he)
      have hIo : ∀ e' ∈ Hin ++ Hi, ∀ e ∈ Ho, e.1 ≠ e'.1 := fun e' he' e he => by
        rcases List.mem_append.1 he' with h | h
        · exact hio e' h e he
        · exact (hIB e (List.mem_append_right _ he) e' h).symm
      refine EfL.grow (Hr := (b8, .cells #[.slice none 0 0, v] 25 (0, 0)) :: (Hin ++ Hi)) (m := 1) (nw := [.string (bs (abc i)), vI, .slice none 0 0, .slice none 0 0, .slice none 0 0]) ho ?_ ?_ ?_ ?_ rfl ?_ (by simp) (by omega) ?_
      · intro e he
        refine (Okh.lk (A := [_, _, _]) hokI ?_) e (List.mem_append_left _ (List.mem_append_right _ he))
        simp only [List.forall_mem_cons]
        exact ⟨hb12, h10I, h8I, fun e he => by cases he⟩
      · intro e he
        simp only [List.mem_cons, List.mem_append] at he ⊢
        rcases he with h | h | h <;> simp [h]
      · simp only [List.forall_mem_cons]
        exact ⟨hob, hIo⟩
      · simp (disch := first | assumption | exact Ne.symm (by assumption) | omega) only [hF12, ↓ZD, ZU, ne_eq, Zaa, Zab, false_implies, Zac, Zad, Zae, Zaf, Zag, Zah, Zai, Zaj, Zak, Zal, Zam, Zan, Zao, Zap, Zaq, Zar, Zas, Zat, Zau, Zav, Zaw, Zax, Zay, Zaz, Za0, Za1, decide_true, decide_false, beq_self_eq_true, cond_true, cond_false, if_false, if_true, reduceIte, reduceCtorEq, not_true_eq_false, not_false_eq_true, true_and, and_true, forall_const, false_and, and_false, implies_true, Za2, Za3, Za4, Za5]
      · obtain ⟨_, _, rfl, -⟩ := hoI.len_le
        simp [oneCell]
      · intro b4 cap4 sp4 hs4 hc4 hm4 hF4 hne4
        simp only [List.forall_mem_cons] at hne4
        obtain ⟨n48, n4B⟩ := hne4
        have hup8 : ∀ o, upd (Hin ++ Hi) b8 o = Hin ++ Hi := fun o => upd_new hI8'
        simp (disch := first | assumption | exact Ne.symm (by assumption) | omega) only [hup8, ↓ZD, ZU, ne_eq, Zaa, Zab, false_implies, Zac, Zad, Zae, Zaf, Zag, Zah, Zai, Zaj, Zak, Zal, Zam, Zan, Zao, Zap, Zaq, Zar, Zas, Zat, Zau, Zav, Zaw, Zax, Zay, Zaz, Za0, Za1, decide_true, decide_false, beq_self_eq_true, cond_true, cond_false, if_false, if_true, reduceIte, reduceCtorEq, not_true_eq_false, not_false_eq_true, true_and, and_true, forall_const, false_and, and_false, implies_true, Za2, Za3, Za4, Za5]
        refine invK.on (i + 1, .slice (some ⟨b4, 0, none⟩) (i + 1) cap4, l ++ [(abc i, vI)], [(b4, .cells (acs l ++ ([.string (bs (abc i)), vI, .slice none 0 0, .slice none 0 0, .slice none 0 0] : List Value) ++ sp4).toArray 37 (0, 0))], Hin ++ Hi) ⟨by simp only; omega, by simp only; omega, OwnS.mk sp4 hF4 (by unfold acs; rw [List.flatMap_append]; simp) rfl (by simp only [acs_len]; simp; omega) hs4 hc4 hm4, by simp only; simp [hll], ?_, hokII, ?_, hI8', ?_⟩ (by simp only; omega) (by (simp only [Le_nil, Le_cons]; simp (disch := first | assumption | exact Ne.symm (by assumption) | omega) only [↓ZD, ZU, ne_eq, Zaa, Zab, false_implies, Zac, Zad, Zae, Zaf, Zag, Zah, Zai, Zaj, Zak, Zal, Zam, Zan, Zao, Zap, Zaq, Zar, Zas, Zat, Zau, Zav, Zaw, Zax, Zay, Zaz, Za0, Za1, decide_true, decide_false, beq_self_eq_true, cond_true, cond_false, if_false, if_true, reduceIte, reduceCtorEq, not_true_eq_false, not_false_eq_true, true_and, and_true, forall_const, false_and, and_false, implies_true, Za2, Za3, Za4, Za5]; try trivial)) ⟨by simp (disch := first | assumption | exact Ne.symm (by assumption) | omega) only [↓ZD, ZU, ne_eq, Zaa, Zab, false_implies, Zac, Zad, Zae, Zaf, Zag, Zah, Zai, Zaj, Zak, Zal, Zam, Zan, Zao, Zap, Zaq, Zar, Zas, Zat, Zau, Zav, Zaw, Zax, Zay, Zaz, Za0, Za1, decide_true, decide_false, beq_self_eq_true, cond_true, cond_false, if_false, if_true, reduceIte, reduceCtorEq, not_true_eq_false, not_false_eq_true, true_and, and_true, forall_const, false_and, and_false, implies_true, Za2, Za3, Za4, Za5], HLe.of ?_⟩
        · intro k' x hx
          simp only at hx
          by_cases hkk : k' < l.length
          · rw [List.getElem?_append_left hkk] at hx
            obtain ⟨q1, q2⟩ := hbl k' x hx
            exact ⟨q1, q2.mono rdObj_ext⟩
          · have hk' : k' = i := by
              have := (List.getElem?_eq_some_iff.1 hx).1
              rw [List.length_append, List.length_singleton] at this
              omega
            subst hk'
            rw [List.getElem?_append_right (by omega), hll, Nat.sub_self, List.getElem?_cons_zero] at hx
            obtain rfl := Option.some.inj hx
            refine ⟨rfl, ?_⟩
            rw [hW]
            unfold innN
            rw [← htk]
            have hlen6 := innW_le (W.take k)
            rw [List.length_take] at hlen6
            exact own_SlS hoI (fun e he => hokII e (List.mem_append_right _ he)) (by omega) (fun y hy => Nat.le_trans (innW_mem hy) (by omega))
        · intro e he
          simp only [List.mem_singleton] at he
          subst he
          exact fun h => n48 h.symm
        · intro e' he' e he
          simp only [List.mem_singleton] at he
          subst he
          exact fun h => n4B _ he' h.symm
        · intro e he
          simp only at he
          rcases List.mem_append.1 he with h | h
          · rw [lk_ne (fun hh => n4B _ h hh.symm), lk_ne (fun hh => hI8' _ h hh.symm)]
            exact hokII e h
          · obtain rfl := List.mem_singleton.1 h
            simp (disch := first | assumption | exact Ne.symm (by assumption) | omega) only [↓ZD, ZU, ne_eq, Zaa, Zab, false_implies, Zac, Zad, Zae, Zaf, Zag, Zah, Zai, Zaj, Zak, Zal, Zam, Zan, Zao, Zap, Zaq, Zar, Zas, Zat, Zau, Zav, Zaw, Zax, Zay, Zaz, Za0, Za1, decide_true, decide_false, beq_self_eq_true, cond_true, cond_false, if_false, if_true, reduceIte, reduceCtorEq, not_true_eq_false, not_false_eq_true, true_and, and_true, forall_const, false_and, and_false, implies_true, Za2, Za3, Za4, Za5]
  · have hd : (decide ((i : Int) < (ws.length : Int)) && decide ((i : Int) < 8)) = false := by simp; omega
    simp (disch := first | assumption | exact Ne.symm (by assumption) | omega) only [hd, ↓ZD, ZU, ne_eq, Zaa, Zab, false_implies, Zac, Zad, Zae, Zaf, Zag, Zah, Zai, Zaj, Zak, Zal, Zam, Zan, Zao, Zap, Zaq, Zar, Zas, Zat, Zau, Zav, Zaw, Zax, Zay, Zaz, Za0, Za1, decide_true, decide_false, beq_self_eq_true, cond_true, cond_false, if_false, if_true, reduceIte, reduceCtorEq, not_true_eq_false, not_false_eq_true, true_and, and_true, forall_const, false_and, and_false, implies_true, Za2, Za3, Za4, Za5]
    have m7 : ∀ x : Int, (BitVec.ofInt 8 x &&& BitVec.ofInt 8 7).toNat ≤ 7 := fun x => by
      rw [BitVec.toNat_and]
      exact Nat.and_le_right
    have w8 : ∀ n : Nat, n ≤ 7 → IntKind.u8.wrap ((n : Int) + 1) = (n : Int) + 1 := fun n hn => by rw [in_u8] <;> omega
    have ma := m7 a
    generalize (BitVec.ofInt 8 a &&& BitVec.ofInt 8 7).toNat = na at *
    have wa := w8 na ma
    simp (disch := first | assumption | exact Ne.symm (by assumption) | omega) only [hd, wa, ↓ZD, ZU, ne_eq, Zaa, Zab, false_implies, Zac, Zad, Zae, Zaf, Zag, Zah, Zai, Zaj, Zak, Zal, Zam, Zan, Zao, Zap, Zaq, Zar, Zas, Zat, Zau, Zav, Zaw, Zax, Zay, Zaz, Za0, Za1, decide_true, decide_false, beq_self_eq_true, cond_true, cond_false, if_false, if_true, reduceIte, reduceCtorEq, not_true_eq_false, not_false_eq_true, true_and, and_true, forall_const, false_and, and_false, implies_true, Za2, Za3, Za4, Za5]
    refine conj.of (by omega) ?_
    simp (disch := first | assumption | exact Ne.symm (by assumption) | omega) only [hd, wa, ↓ZD, ZU, ne_eq, Zaa, Zab, false_implies, Zac, Zad, Zae, Zaf, Zag, Zah, Zai, Zaj, Zak, Zal, Zam, Zan, Zao, Zap, Zaq, Zar, Zas, Zat, Zau, Zav, Zaw, Zax, Zay, Zaz, Za0, Za1, decide_true, decide_false, beq_self_eq_true, cond_true, cond_false, if_false, if_true, reduceIte, reduceCtorEq, not_true_eq_false, not_false_eq_true, true_and, and_true, forall_const, false_and, and_false, implies_true, Za2, Za3, Za4, Za5]
    have mb := m7 b
    generalize (BitVec.ofInt 8 b &&& BitVec.ofInt 8 7).toNat = nb at *
    have wb := w8 nb mb
    simp (disch := first | assumption | exact Ne.symm (by assumption) | omega) only [hd, wa, wb, ↓ZD, ZU, ne_eq, Zaa, Zab, false_implies, Zac, Zad, Zae, Zaf, Zag, Zah, Zai, Zaj, Zak, Zal, Zam, Zan, Zao, Zap, Zaq, Zar, Zas, Zat, Zau, Zav, Zaw, Zax, Zay, Zaz, Za0, Za1, decide_true, decide_false, beq_self_eq_true, cond_true, cond_false, if_false, if_true, reduceIte, reduceCtorEq, not_true_eq_false, not_false_eq_true, true_and, and_true, forall_const, false_and, and_false, implies_true, Za2, Za3, Za4, Za5]
    refine conj.of (by omega) ?_
    simp (disch := first | assumption | exact Ne.symm (by assumption) | omega) only [hd, wa, wb, ↓ZD, ZU, ne_eq, Zaa, Zab, false_implies, Zac, Zad, Zae, Zaf, Zag, Zah, Zai, Zaj, Zak, Zal, Zam, Zan, Zao, Zap, Zaq, Zar, Zas, Zat, Zau, Zav, Zaw, Zax, Zay, Zaz, Za0, Za1, decide_true, decide_false, beq_self_eq_true, cond_true, cond_false, if_false, if_true, reduceIte, reduceCtorEq, not_true_eq_false, not_false_eq_true, true_and, and_true, forall_const, false_and, and_false, implies_true, Za2, Za3, Za4, Za5]
    have hself3 := Okh.cons (b := b8) (o := .cells #[.slice none 0 0, v] 25 (0, 0)) hok hab
    obtain ⟨av, cv, rfl, hR⟩ := gRep (H := (b8, .cells #[.slice none 0 0, v] 25 (0, 0)) :: (Hin ++ Ho)) ho hll (fun e he => hself3 e (List.mem_cons_of_mem _ (List.mem_append_right _ he)))
      (fun k x hx => ⟨(hbl k x hx).1, ((hbl k x hx).2.mono rdObj_ext).mono (rdObj_cons hab hF8)⟩) hi8
    have hO := gOk ws hi8
    have c1 := schema_check _ (hg.mono le_up) hR hO
    have c2 := rschema_check _ hR hO
    have c3 := fun x y => actIn_pure _ hR hO.1 x y
    have c4 := fun x y => ractIn_pure _ hR hO.1 x y
    refine CallQ.of _ c1 ?_
    simp (disch := first | assumption | exact Ne.symm (by assumption) | omega) only [hd, wa, wb, ↓ZD, ZU, ne_eq, Zaa, Zab, false_implies, Zac, Zad, Zae, Zaf, Zag, Zah, Zai, Zaj, Zak, Zal, Zam, Zan, Zao, Zap, Zaq, Zar, Zas, Zat, Zau, Zav, Zaw, Zax, Zay, Zaz, Za0, Za1, decide_true, decide_false, beq_self_eq_true, cond_true, cond_false, if_false, if_true, reduceIte, reduceCtorEq, not_true_eq_false, not_false_eq_true, true_and, and_true, forall_const, false_and, and_false, implies_true, Za2, Za3, Za4, Za5]
    refine CallQ.of _ c2 ?_
    simp (disch := first | assumption | exact Ne.symm (by assumption) | omega) only [hd, wa, wb, ↓ZD, ZU, ne_eq, Zaa, Zab, false_implies, Zac, Zad, Zae, Zaf, Zag, Zah, Zai, Zaj, Zak, Zal, Zam, Zan, Zao, Zap, Zaq, Zar, Zas, Zat, Zau, Zav, Zaw, Zax, Zay, Zaz, Za0, Za1, decide_true, decide_false, beq_self_eq_true, cond_true, cond_false, if_false, if_true, reduceIte, reduceCtorEq, not_true_eq_false, not_false_eq_true, true_and, and_true, forall_const, false_and, and_false, implies_true, Za2, Za3, Za4, Za5]
    refine CallQ.of _ (c3 _ _) ?_
    simp (disch := first | assumption | exact Ne.symm (by assumption) | omega) only [hd, wa, wb, ↓ZD, ZU, ne_eq, Zaa, Zab, false_implies, Zac, Zad, Zae, Zaf, Zag, Zah, Zai, Zaj, Zak, Zal, Zam, Zan, Zao, Zap, Zaq, Zar, Zas, Zat, Zau, Zav, Zaw, Zax, Zay, Zaz, Za0, Za1, decide_true, decide_false, beq_self_eq_true, cond_true, cond_false, if_false, if_true, reduceIte, reduceCtorEq, not_true_eq_false, not_false_eq_true, true_and, and_true, forall_const, false_and, and_false, implies_true, Za2, Za3, Za4, Za5]
    refine CallQ.of _ (c4 _ _) ?_
    simp (disch := first | assumption | exact Ne.symm (by assumption) | omega) only [hd, wa, wb, ↓ZD, ZU, ne_eq, Zaa, Zab, false_implies, Zac, Zad, Zae, Zaf, Zag, Zah, Zai, Zaj, Zak, Zal, Zam, Zan, Zao, Zap, Zaq, Zar, Zas, Zat, Zau, Zav, Zaw, Zax, Zay, Zaz, Za0, Za1, decide_true, decide_false, beq_self_eq_true, cond_true, cond_false, if_false, if_true, reduceIte, reduceCtorEq, not_true_eq_false, not_false_eq_true, true_and, and_true, forall_const, false_and, and_false, implies_true, Za2, Za3, Za4, Za5]
end Go.Proofs.YtnnieekbklmgdaaDoor
namespace Go.Proofs.YtnnieekbklmgdaaDoor.schemaGraphs
open Go Go.ChangeShapes Go.WideShapes Go.ChangeAt Go.RowKit
open Go.ChangeMaps (open_string shut_string)
set_option linter.unusedVariables false

theorem own : ownKnob Tryd.prog.godebug = none := by kernel_rfl
theorem laidOut : laidOutB Tryd.prog = true := by kernel_rfl
theorem walk (v0 : Value) (t0 : List (List Int)) (a1 : Int) (a2 : Int) (w : World) (w0 : SlW (fun b => w.heap[b]?) v0 t0) (w1 : (Lit.int .u8 a1).wf = true) (w2 : (Lit.int .u8 a2).wf = true) (hsh : w.ShapedOpen Tryd.prog) (hL : laidMetH Tryd.prog Rows.schemaGraphsRow.laid w) :
    Calls Tryd.prog 6 #[v0, .int .u8 a1, .int .u8 a2] w fun e w' => e = .returned (.bool true) ∧ Below w.heap.size w w' := by
  exact graphs_law (fun b => w.heap[b]?) (hasM_of hsh) w0 a1 a2 (Eng.wf_u8 w1).1 (Int.le_of_lt_add_one (Eng.wf_u8 w1).2) (Eng.wf_u8 w2).1 (Int.le_of_lt_add_one (Eng.wf_u8 w2).2) w (fun _ _ h => h)

set_option maxRecDepth 100000 in
theorem laid_met (os : Os) (args : Array Value) : laidMetH Tryd.prog Rows.schemaGraphsRow.laid ((World.laidAll Tryd.prog os Rows.schemaGraphsRow.laid).forCall (fun _ _ => 0) ⟨#[], args, []⟩).memory := by
  rw [MakeChecks.laidMetH_plain _ _ _ (by kernel_rfl)]
  exact laidMet_laidAll args (by kernel_rfl) (by kernel_rfl)
set_option maxRecDepth 100000 in
theorem lifted (os : Os) (started : os.Started) (H : Type) (enc : TypeId × Value → H) :
    ReturnsInHanded {} Tryd.checked os 6 .any (fun w args => (Rows.schemaGraphsSpec.pre enc Tryd.prog Tryd.f6 Rows.schemaGraphsRow.domain false w args ∧ laidMetH Tryd.prog Rows.schemaGraphsRow.laid w) ∧ sizedMet enc Tryd.prog Tryd.f6 (OpenSpec.ofChange Rows.schemaGraphsSpec) false w args) (Rows.schemaGraphsSpec.post enc Tryd.prog Tryd.f6 false true false false) := by
  refine returnsInHanded_laid (C := Tryd.checked) (X := fun w _ => laidMetH Tryd.prog Rows.schemaGraphsRow.laid w) (fun _ _ _ hh h => h.of_heap hh) own started (by kernel_rfl) Tryd.func6
    (ChangeSpec.witness_at (enc := enc) (C := Tryd.checked) (os := os) (X := fun w _ => laidMetH Tryd.prog Rows.schemaGraphsRow.laid w) false (World.laidAll Tryd.prog os Rows.schemaGraphsRow.laid) #[.slice none 0 0, .int .u8 0, .int .u8 0] 8 (World.laidAll_os _ _ _) (by kernel_rfl) (by kernel_rfl) (by kernel_rfl) (by kernel_rfl) (by kernel_rfl) (laid_met os _)) ?_
  intro W base args ds gs before hval0 hW hcnd _ hL hsh
  have hval : ∀ (j : Nat) t v, Tryd.f6.params[j]? = some t → args[j]? = some v → Value.okWide Tryd.prog W .any base t v := hval0
  have hW' := hW
  obtain ⟨p, q, hA0, hV, rfl, hfz, hnd⟩ := hW
  have hA : DataW.TrodAll enc Tryd.prog W 0 (fun _ => true) true Tryd.f6.params.toList args.toList ds p := hA0
  rw [Tryd.params6] at hA hval
  obtain ⟨v0, vs0, d0, ds0, p0, q0, hargs, rfl, rfl, h0, r0⟩ := trodAll_cons hA
  obtain ⟨v1, vs1, d1, ds1, p1, q1, rfl, rfl, rfl, h1, r1⟩ := trodAll_cons r0
  obtain ⟨v2, vs2, d2, ds2, p2, q2, rfl, rfl, rfl, h2, r2⟩ := trodAll_cons r1
  obtain ⟨rfl, rfl, rfl⟩ := trodAll_nil r2
  obtain rfl : args = #[v0, v1, v2] := by cases args; simp_all
  obtain ⟨rfl, rfl⟩ := trodVars_none hV
  have k0 := h0
  have lt0 : ∀ x ∈ p0, x.block < W.heap.size := by obtain ⟨m, hm⟩ := k0; exact DataW.trod_lt m _ _ _ hm
  obtain ⟨sa0, sl0, sc0, rfl⟩ := okWide_slice Tryd.underlying49 (hval 0 49 v0 rfl rfl)
  obtain ⟨t0, w0⟩ : ∃ t, SlW (fun b => W.heap[b]?) (.slice sa0 sl0 sc0) t := by
    obtain ⟨fuel, hf⟩ := h0
    obtain ⟨v, t, e, hv⟩ := open_ways fuel _ _ hf
    obtain rfl : Value.slice sa0 sl0 sc0 = v := by simpa [Value.cells] using e
    exact ⟨t, hv⟩
  obtain ⟨a1, rfl, rfl, rfl, w1⟩ := open_int Tryd.underlying5 (hval 1 5 v1 rfl rfl) h1
  obtain ⟨a2, rfl, rfl, rfl, w2⟩ := open_int Tryd.underlying5 (hval 2 5 v2 rfl rfl) h2
  clear hA0 hval0
  refine (walk _ t0 a1 a2 W w0 w1 w2 hsh hL).mono fun e W' ⟨he, bel⟩ => ?_
  subst he
  exact ⟨_, rfl, _, _, _, [], _, [], hW', trodAll_mk1 (shut_bool Tryd.underlying4 _), (trodAll_cons_mk (Below.trod laidOut (by kernel_rfl) (of_decide_eq_true (by kernel_rfl)) k0 bel lt0) (trodAll_cons_mk (shut_int Tryd.underlying5 w1) (trodAll_cons_mk (shut_int Tryd.underlying5 w2) trodAll_mk0))), rfl, bel.frame _, fun h => by cases h⟩
theorem over : Rows.schemaGraphsRow.holds Tryd.pinned (OpenSpec.ofChange Rows.schemaGraphsSpec) :=
  OpenClaim.holds_of_wide 6 Tryd.f6 rfl rfl rfl rfl rfl rfl rfl ⟨rfl, rfl, rfl, rfl, rfl⟩ rfl rfl rfl rfl rfl (by kernel_rfl) Tryd.func6 (by kernel_rfl)
    (of_decide_eq_true (by kernel_rfl)) (by unfold Func.isWrapper; first | (rw [if_pos (by decide +kernel)]; kernel_rfl) | (rw [if_neg (by decide +kernel)]; exact ⟨rfl, rfl⟩))
    (fun os started H enc _ => lifted os started H enc)
theorem proved : Rows.SchemaGraphsCardSaid :=
  Claim7.holds_tied_plain_at .later [] [.data, .pinned] true (true, "7e76be3e1e9495098fe0d596c9d577010a9804cd9a21972032f764208a0ccf71") false
    over (fun _ h => by cases h) (by kernel_rfl) (fun _ h => by cases h) schemaGraphs_row_tie rfl ⟨rfl, rfl⟩ (by kernel_rfl) rfl
    (fun f fn hf hfn => by
      obtain rfl : f = 6 := Option.some.inj ((show Tryd.prog.funcNamed "chamberlain/chamberlainlaw12.SchemaGraphs" = some 6 by kernel_rfl).symm.trans hf) |>.symm
      obtain rfl : fn = Tryd.f6 := (Option.some.inj (Tryd.func6.symm.trans hfn)).symm
      exact ⟨by kernel_rfl, fun j t ht => by
        have hm : t ∈ [49, 5] := by
          have := Array.mem_of_getElem? ht
          rw [Tryd.params6] at this
          simpa using this
        have hall : ([49, 5].all fun u => !Tryd.prog.wantsStandIn u) = true := by kernel_rfl
        exact (show Tryd.prog.wantsStandIn t = false by simpa using List.all_eq_true.1 hall t hm)⟩)
    (by kernel_rfl)
#print axioms proved
end Go.Proofs.YtnnieekbklmgdaaDoor.schemaGraphs
