/- The law SchemaAttrs returns true whatever it is given, and what it was given reads behind the call as it read before. Condition: what it reads is of bulk at most 1048576 (the second form). -/
import Derived.Test.YtnnieekbklmgdaaDoorRows
import Derived.WalkKit
import Derived.ProofKit
import Derived.OpenShut
import Derived.ShutString
import Derived.ChangeOld
import Derived.Below
import Derived.Carry
import Derived.Lay
import Derived.MakeChecks
import Derived.SevenTiedAt
import Derived.Stop.Joined
import Derived.JoinedCond
import Derived.Test.YtnnieekbklmgdaaDoorTie
import Derived.Test.YtnnieekbklmgdaaDoorCards
import Derived.Test.YtnnieekbklmgdaaDoorLaw
import Derived.Test.YtnnieekbklmgdaaDoorSyP
import Derived.Handed
import Derived.HandedShaped
namespace Go.Proofs.YtnnieekbklmgdaaDoor
open Go Go.Eng
open Int renaming reduceEq → Zaa, reduceToNat → Zaw, reduceLE → Zax, reduceLT → Zay, reduceAdd → Zaz, reduceSub → Za0, reduceNeg → Za1, reducePow → Za3, reduceNegSucc → Za5
open UInt8 renaming reduceOfNat → Zab
open Go.Eng renaming subG → Zac, lit → Zad, isPar → Zae, numb → Zaf, Wf → Zag, resV → Zah, oneCell → Zai, isB → Zaj, asB → Zak
open List renaming mapM_cons → Zal, mapM_nil → Zam
open Go.Value renaming cells → Zan
open Nat renaming reduceAdd → Zao, reduceMul → Zap, reduceMod → Zaq, reduceDiv → Zar, reduceEqDiff → Zas, reduceBEq → Zat, reduceLeDiff → Zau, reduceSub → Zav, reducePow → Za2, reduceLT → Za4
set_option linter.unusedSimpArgs false
set_option linter.unusedVariables false
set_option maxRecDepth 20000

/-! ### The second form: what is read is of bulk at most 1048576 -/
section
variable {H : Type} {enc : TypeId × Value → H}
theorem returnsInHanded_upto {a : Assume} {C : Checked} {os : Os} {f : FuncId} {fn : Func} {s : OpenSpec} {k : (H : Type) → List (DataW H) → Bool} (hk : s.cond = some k) {G : Stop.Interp} {conds : List PathCond} {apart fresh handsOn again : Bool} {X : World → Array Value → Prop}
    (hX : ∀ (w w' : World) (args : Array Value), w.heap = w'.heap → X w args → X w' args)
    (own : ownKnob C.prog.godebug = none) (started : os.Started) (noInit : C.prog.inits.idxOf? f = none) (hfn : C.prog.funcs[f]? = some fn)
    (witness : ∃ (w : World) (tape : Tape) (i : Input), w.os = os ∧ (w.forCall tape i).Shaped C.prog ∧ i.vars = [] ∧ Input.okWide C.prog (w.forCall tape i) .any w.heap.size f i ∧
      ((s.pre enc C.prog fn conds apart (w.forCall tape i).memory i.args ∧ X (w.forCall tape i).memory i.args) ∧ sizedMet enc C.prog fn s apart (w.forCall tape i).memory i.args) ∧ a.holds C.prog (lone (Frame.enter C.prog f i.args .normal) [] (w.forCall tape i)))
    (contract : ∀ (W : World) (base : Nat) (args : Array Value) (ds gs : List (DataW H)) (before : List MemPlace),
      (∀ (j : Nat) t v, fn.params[j]? = some t → args[j]? = some v → Value.okWide C.prog W .any base t v) →
      DataW.Whole enc C.prog fn.params.toList s.vars apart W args.toList ds gs before →
      conds.all (PathCond.test C.prog ⟨fn.params.toList, ds, s.bare.plain.varTypes C.prog, gs⟩) = true → k H (ds ++ gs) = true →
      X W args → W.ShapedOpen C.prog →
      Calls C.prog f args W fun e W' => ∃ v, e = .returned v ∧ (s.at G).post enc C.prog fn apart fresh handsOn again W args v W') :
    ReturnsInHanded a C os f .any (fun w args => (s.pre enc C.prog fn conds apart w args ∧ X w args) ∧ sizedMet enc C.prog fn s apart w args) ((s.at G).post enc C.prog fn apart fresh handsOn again) := by
  refine returnsInHanded_of_calls own started noInit witness ?_
  intro w tape i _ hsh _ hok hpre _
  obtain ⟨_, _, _, fn', hfn', _, _, _, _, hval⟩ := hok
  have e : fn' = fn := Option.some.inj (hfn'.symm.trans hfn)
  subst e
  obtain ⟨⟨hp, hx⟩, _⟩ := hpre
  obtain ⟨ds, gs, before, hw, hc, hkk⟩ := (OpenSpec.pre_some hk conds apart _ _).1 hp
  have hw' := DataW.Whole.of_heap (w' := w.forCall tape i) (by rfl) hw
  refine (contract (w.forCall tape i) w.heap.size i.args ds gs before hval hw' hc hkk (hX _ _ _ (by rfl) hx) hsh).mono fun e W' ⟨v, he, hp⟩ => ?_
  subst he
  exact ChangeSpec.post_blind hp
def upPreB (enc : TypeId × Value → H) (P : Program) (f : Func) (s : OpenSpec) (k : (H : Type) → List (DataW H) → Bool) (conds : List PathCond) (apart : Bool) (w : World) (args : Array Value) (fuel : Nat) : Bool :=
  match DataW.whole enc P w f.params.toList s.vars apart args.toList fuel with
  | some x => conds.all (PathCond.test P ⟨f.params.toList, x.1, s.bare.plain.varTypes P, x.2.1⟩) && k H (x.1 ++ x.2.1)
  | none => false
theorem upPre_of {P : Program} {f : Func} {s : OpenSpec} {k : (H : Type) → List (DataW H) → Bool} (hk : s.cond = some k) {conds : List PathCond} {apart : Bool} {w : World} {args : Array Value} {fuel : Nat}
    (h : upPreB enc P f s k conds apart w args fuel = true) : s.pre enc P f conds apart w args := by
  unfold upPreB at h
  split at h
  · rename_i x hx
    rw [Bool.and_eq_true] at h
    exact (OpenSpec.pre_some hk conds apart _ _).2 ⟨x.1, x.2.1, x.2.2, DataW.Whole_of_whole hx, h.1, h.2⟩
  · cases h
theorem upto_witness {C : Checked} {os : Os} {f : FuncId} {fn : Func} {s : OpenSpec} {k : (H : Type) → List (DataW H) → Bool} (hk : s.cond = some k) {conds : List PathCond} {apart : Bool} {X : World → Array Value → Prop} (modest : Bool) (w0 : World) (args : Array Value) (fuel : Nat) (hos : w0.os = os)
    (hv : (w0.forCall (fun _ _ => 0) ⟨#[], args, []⟩).variablesB C.prog = true)
    (hr : ((w0.forCall (fun _ _ => 0) ⟨#[], args, []⟩).heap.toList.drop C.prog.globals.size).take ((begin C.prog (fun _ _ => 0) default).world.heap.size - C.prog.globals.size) =
      (begin C.prog (fun _ _ => 0) default).world.heap.toList.drop C.prog.globals.size)
    (hok : Input.okWideB C.prog (w0.forCall (fun _ _ => 0) ⟨#[], args, []⟩) f ⟨#[], args, []⟩ = true)
    (hpre : upPreB enc C.prog fn s k conds apart (w0.forCall (fun _ _ => 0) ⟨#[], args, []⟩).memory args fuel = true)
    (hsz : s.bare.sizedB enc C.prog fn apart (w0.forCall (fun _ _ => 0) ⟨#[], args, []⟩).memory args fuel = true)
    (hx : X (w0.forCall (fun _ _ => 0) ⟨#[], args, []⟩).memory args) :
    ∃ (w : World) (tape : Tape) (i : Input), w.os = os ∧ (w.forCall tape i).Shaped C.prog ∧ i.vars = [] ∧ Input.okWide C.prog (w.forCall tape i) .any w.heap.size f i ∧
      ((s.pre enc C.prog fn conds apart (w.forCall tape i).memory i.args ∧ X (w.forCall tape i).memory i.args) ∧ sizedMet enc C.prog fn s apart (w.forCall tape i).memory i.args) ∧ ({ modest := modest } : Assume).holds C.prog (lone (Frame.enter C.prog f i.args .normal) [] (w.forCall tape i)) :=
  ⟨w0, fun _ _ => 0, ⟨#[], args, []⟩, hos, World.shaped_of_B hv hr, (Input.okWide_of_okWideB (base := 0) hok).1, (Input.okWide_of_okWideB hok).2, ⟨⟨upPre_of hk hpre, hx⟩, sizedMet_of_sizedB hsz⟩, by
    simp only [Assume.holds]
    exact ⟨by simp, by simp, fun _ => Modest.zero, by simp, by simp⟩⟩
theorem bulk_mem {d : DataW H} : ∀ {l : List (DataW H)}, d ∈ l → Rows.uptoBulk d ≤ Rows.uptoBulkAll l
  | x :: l, h => by
    simp only [Rows.uptoBulkAll]
    rcases List.mem_cons.1 h with rfl | h
    · omega
    · have := bulk_mem h
      omega
theorem bulk_all {l : List (DataW H)} (h : Rows.uptoSmall H l = true) : ∀ d ∈ l, Rows.uptoBulk d ≤ 1048576 := fun d hd => by
  have h1 : Rows.uptoBulkAll l ≤ 1048576 := of_decide_eq_true h
  exact Nat.le_trans (bulk_mem hd) h1
theorem bulk_at {l : List (DataW H)} {i : Nat} {d : DataW H} (h : ∀ d ∈ l, Rows.uptoBulk d ≤ 1048576) (e : l[i]? = some d) : Rows.uptoBulk d ≤ 1048576 := h d (List.mem_of_getElem? e)
theorem bulk_string {a : ByteArray} (h : Rows.uptoBulk (.lit (.string a.data.toList) : DataW H) ≤ 1048576) : a.size ≤ 1048576 := by
  simp only [Rows.uptoBulk] at h
  have e : a.size = a.data.toList.length := by rw [Array.length_toList]; rfl
  omega
variable {w : World} {spare : Nat → Bool} {held : Bool}
theorem open_slice_u {P : Program} {α : Type} {R : List Value → α → Prop} {f : α → Nat} {t e n fuel : Nat} {cs : List Value} {x : DataW H × List MemPlace} (ht : P.underlying t = some (.slice e)) (hn : P.cellsOf e = n) (hpos : 0 < n)
    (h : DataW.trod enc P w 0 spare held fuel t cs = some x) (hR : ∀ m cs' y, m < fuel → DataW.trod enc P w 0 spare held m e cs' = some y → ∃ z : α, R cs' z ∧ f z ≤ Rows.uptoBulk y.1) :
    ∃ (a : Option Addr) (l : List α) (cap : Nat) (g : Nat → List Value), cs = [.slice a l.length cap] ∧ l.length ≤ maxLen ∧ l.length ≤ cap ∧ cap ≤ maxLen ∧ (∀ (i : Nat) (z : α), l[i]? = some z → Cl (fun b => w.heap[b]?) a n i (g i)) ∧ (∀ (i : Nat) (z : α), l[i]? = some z → R (g i) z ∧ f z ≤ Rows.uptoBulk x.1) := by
  rcases DataW.trod_slice ht h with ⟨hc, _⟩ | ⟨a, len, cap, elems, rest, m, hf, hcs, hxe, _, hl, hm, hlen, hel, _⟩
  · exact ⟨none, [], 0, fun _ => [], hc, Nat.zero_le _, Nat.le_refl _, Nat.zero_le _, fun i z h => by simp at h, fun i z h => by simp at h⟩
  · rw [hn] at hel
    have hb : ∀ i, i < len → ∃ z : List Value × α, w.cells? 0 (a.add (i * n)) n = some z.1 ∧ R z.1 z.2 ∧ f z.2 ≤ Rows.uptoBulk x.1 := fun i hi => by
      have h1 := hel i hi
      rw [List.getElem?_eq_getElem (by omega)] at h1
      cases hc : w.cells? 0 (a.add (i * n)) n with
      | none => rw [hc] at h1; cases h1
      | some cs' =>
        rw [hc] at h1
        obtain ⟨z, hz, hz2⟩ := hR m cs' _ (by omega) h1
        have hle : Rows.uptoBulk (elems[i]'(by omega)).1 ≤ Rows.uptoBulkAll (elems.map (·.1)) := bulk_mem (List.mem_map.2 ⟨_, List.getElem_mem _, rfl⟩)
        refine ⟨(cs', z), rfl, hz, ?_⟩
        rw [hxe]
        simp only [Rows.uptoBulk]
        omega
    obtain ⟨l, hl1, hl2⟩ := choose_list len hb
    have hsp : 0 < len → a.spot = none := fun h0 => by
      obtain ⟨z, hz, _⟩ := hb 0 h0
      rw [Nat.zero_mul] at hz
      exact cells_spot hpos hz
    refine ⟨some a, l.map (·.2), cap, fun i => ((l[i]?).map (·.1)).getD [], by rw [List.length_map, hl1]; exact hcs, by rw [List.length_map]; omega, by rw [List.length_map]; omega, hm, fun i z hz => ?_, fun i z hz => ?_⟩
    all_goals
      rw [List.getElem?_map] at hz
      cases hy : l[i]? with
      | none => rw [hy] at hz; cases hz
      | some y =>
        rw [hy] at hz
        simp only [Option.map_some, Option.some.injEq] at hz
        subst hz
        have hi : i < len := by rw [← hl1]; exact (List.getElem?_eq_some_iff.mp hy).1
        obtain ⟨h1, h2⟩ := hl2 i y hy
        simp only [hy, Option.map_some, Option.getD_some]
        first | exact cells_Cl hpos (hsp (by omega)) h1 | exact h2
theorem name_bulk {fuel : Nat} {cs : List Value} {x : DataW H × List MemPlace} (h : DataW.trod enc Tryd.prog w 0 spare held fuel 33 cs = some x) {F : Base} {e : ET} (he : RepE F cs e) : e.name.length ≤ Rows.uptoBulk x.1 := by
  obtain ⟨xs, n, hf, hxe, hlen, hx, hfs⟩ := DataW.trod_struct Tryd.underlying33 h
  have hxs : xs.length = 3 := hx
  obtain ⟨v1, v2, rfl, -⟩ := he
  have f0 : DataW.trod enc Tryd.prog w 0 spare held n 9 (List.take (Tryd.prog.cellsOf 9) (List.drop 0 [.string (bs e.name), v1, v2])) = xs[0]? := hfs 0 _ rfl
  rw [List.getElem?_eq_getElem (by omega)] at f0
  simp only [cells9, List.drop_zero, List.take_succ_cons, List.take_zero] at f0
  obtain ⟨s, e0, e1, -⟩ := DataW.trod_string Tryd.underlying9 f0
  simp only [List.cons.injEq, and_true, Value.string.injEq] at e0
  subst e0
  have hle : Rows.uptoBulk (xs[0]'(by omega)).1 ≤ Rows.uptoBulkAll (xs.map (·.1)) := bulk_mem (List.mem_map.2 ⟨_, List.getElem_mem _, rfl⟩)
  rw [e1] at hle
  rw [hxe]
  simp only [Rows.uptoBulk, bs] at hle ⊢
  omega
def RepHU (F : Base) (cs : List Value) (s : Sch) : Prop := RepH F cs s ∧ ∀ t ∈ s.types, t.name.length ≤ 1000000000
theorem open_sch_u (fuel : Nat) (cs : List Value) (x : DataW H × List MemPlace) (h : DataW.trod enc Tryd.prog w 0 spare held fuel 25 cs = some x) (hb : Rows.uptoBulk x.1 ≤ 1048576) : ∃ s, RepHU (fun b => w.heap[b]?) cs s := by
  obtain ⟨xs, n, hf, hxe, hlen, hx, hfs⟩ := DataW.trod_struct Tryd.underlying25 h
  rw [cellsH] at hlen
  have hxs : xs.length = 2 := hx
  match cs, hlen with
  | [v0, v1], _ =>
    have f0 : DataW.trod enc Tryd.prog w 0 spare held n 22 (List.take (Tryd.prog.cellsOf 22) (List.drop 0 [v0, v1])) = xs[0]? := hfs 0 _ rfl
    have f1 : DataW.trod enc Tryd.prog w 0 spare held n 23 (List.take (Tryd.prog.cellsOf 23) (List.drop 1 [v0, v1])) = xs[1]? := hfs 1 _ rfl
    rw [List.getElem?_eq_getElem (by omega)] at f0 f1
    simp only [cellsES, cellsCS, List.drop_zero, List.drop_succ_cons, List.take_succ_cons, List.take_zero] at f0 f1
    obtain ⟨a1, l1, c1, g1, e1, hl1, hc1, _, p1, p2⟩ := open_slice_u (R := RepE (fun b => w.heap[b]?)) (f := fun e => e.name.length) Tryd.underlying22 cellsE (by omega) f0 (fun m cs' y hm hy => by
      obtain ⟨z, hz⟩ := open_E hy
      exact ⟨z, hz, name_bulk hy hz⟩)
    obtain ⟨a2, l2, c2, g2, e2, hl2, hc2, _, q1, q2⟩ := open_slice (R := RepC (fun b => w.heap[b]?)) Tryd.underlying23 cellsC (by omega) f1 (fun m cs' y hm hy => open_C hy)
    rw [maxLen_eq] at hl1 hl2
    simp only [List.cons.injEq, and_true] at e1 e2
    rw [e1, e2]
    refine ⟨⟨l1, l2⟩, .mk a1 a2 c1 c2 l1 l2 g1 g2 hc1 hc2 hl1 hl2 (fun i x hx => ⟨p1 i x hx, (p2 i x hx).1⟩) (fun i x hx => ⟨q1 i x hx, q2 i x hx⟩), fun t ht => ?_⟩
    obtain ⟨i, hi⟩ := List.getElem?_of_mem ht
    have h1 := (p2 i t hi).2
    have hle : Rows.uptoBulk (xs[0]'(by omega)).1 ≤ Rows.uptoBulkAll (xs.map (·.1)) := bulk_mem (List.mem_map.2 ⟨_, List.getElem_mem _, rfl⟩)
    rw [hxe] at hb
    simp only [Rows.uptoBulk] at hb
    omega
theorem open_attrs_u (fuel : Nat) (cs : List Value) (x : DataW H × List MemPlace) (h : DataW.trod enc Tryd.prog w 0 spare held fuel 31 cs = some x) (_ : Rows.uptoBulk x.1 ≤ 1048576) : ∃ v l, cs = [v] ∧ SlA (fun b => w.heap[b]?) v l := open_attrs h
end
theorem szd_OkS {s : Sch} (h : szd s = true) (hn : ∀ t ∈ s.types, t.name.length ≤ 1000000000) : OkS s := by
  obtain ⟨h1, -, h2, h3, h4, h5⟩ := szd_ok h
  exact ⟨h1, fun t ht => ⟨Nat.le_trans (h4 t ht) (by omega), hn t ht⟩, fun a ha => Nat.le_trans (h5 a ha).1 (by omega), by omega, by omega⟩
theorem checks_law (F : Base) (hg : HasM F) {ch : List Value} {s : Sch} (hs : RepH F ch s) (hn : ∀ t ∈ s.types, t.name.length ≤ 1000000000) : PureV Tryd.prog F 3 #[.agg ch.toArray] (.bool true) := by
  have ha := awake_pure F hg
  have hz := sized_pure F hs
  have c1 := fun h => schema_check F hg hs (szd_OkS h hn)
  have c2 := fun h => rschema_check F hs (szd_OkS h hn)
  obtain ⟨y1, y2, y3, y4, y5, y6, rfl⟩ := hs.form
  refine pureV_of_svc mixed Tryd.func3 low3 (Nat.le_of_ble_eq_true rfl) (fun w0 => ?_)
  simp (disch := first | assumption | exact Ne.symm (by assumption) | omega) only [fu3, ↓ZD, ZU, ne_eq, Zaa, Zab, false_implies, Zac, Zad, Zae, Zaf, Zag, Zah, Zai, Zaj, Zak, Zal, Zam, Zan, Zao, Zap, Zaq, Zar, Zas, Zat, Zau, Zav, Zaw, Zax, Zay, Zaz, Za0, Za1, decide_true, decide_false, beq_self_eq_true, cond_true, cond_false, if_false, if_true, reduceIte, reduceCtorEq, not_true_eq_false, not_false_eq_true, true_and, and_true, forall_const, false_and, and_false, implies_true, Za2, Za3, Za4, Za5]
  refine NewB.of fun b1 hb1 hF1 => ?_
  simp (disch := first | assumption | exact Ne.symm (by assumption) | omega) only [hF1, ↓ZD, ZU, ne_eq, Zaa, Zab, false_implies, Zac, Zad, Zae, Zaf, Zag, Zah, Zai, Zaj, Zak, Zal, Zam, Zan, Zao, Zap, Zaq, Zar, Zas, Zat, Zau, Zav, Zaw, Zax, Zay, Zaz, Za0, Za1, decide_true, decide_false, beq_self_eq_true, cond_true, cond_false, if_false, if_true, reduceIte, reduceCtorEq, not_true_eq_false, not_false_eq_true, true_and, and_true, forall_const, false_and, and_false, implies_true, Za2, Za3, Za4, Za5]
  refine CallE.pure ha ?_
  simp (disch := first | assumption | exact Ne.symm (by assumption) | omega) only [hF1, ↓ZD, ZU, ne_eq, Zaa, Zab, false_implies, Zac, Zad, Zae, Zaf, Zag, Zah, Zai, Zaj, Zak, Zal, Zam, Zan, Zao, Zap, Zaq, Zar, Zas, Zat, Zau, Zav, Zaw, Zax, Zay, Zaz, Za0, Za1, decide_true, decide_false, beq_self_eq_true, cond_true, cond_false, if_false, if_true, reduceIte, reduceCtorEq, not_true_eq_false, not_false_eq_true, true_and, and_true, forall_const, false_and, and_false, implies_true, Za2, Za3, Za4, Za5]
  refine CallE.pure hz ?_
  simp (disch := first | assumption | exact Ne.symm (by assumption) | omega) only [hF1, ↓ZD, ZU, ne_eq, Zaa, Zab, false_implies, Zac, Zad, Zae, Zaf, Zag, Zah, Zai, Zaj, Zak, Zal, Zam, Zan, Zao, Zap, Zaq, Zar, Zas, Zat, Zau, Zav, Zaw, Zax, Zay, Zaz, Za0, Za1, decide_true, decide_false, beq_self_eq_true, cond_true, cond_false, if_false, if_true, reduceIte, reduceCtorEq, not_true_eq_false, not_false_eq_true, true_and, and_true, forall_const, false_and, and_false, implies_true, Za2, Za3, Za4, Za5]
  intro h
  have h : szd s = true := by simpa using h
  refine CallQ.of _ (c1 h).up ?_
  simp (disch := first | assumption | exact Ne.symm (by assumption) | omega) only [hF1, ↓ZD, ZU, ne_eq, Zaa, Zab, false_implies, Zac, Zad, Zae, Zaf, Zag, Zah, Zai, Zaj, Zak, Zal, Zam, Zan, Zao, Zap, Zaq, Zar, Zas, Zat, Zau, Zav, Zaw, Zax, Zay, Zaz, Za0, Za1, decide_true, decide_false, beq_self_eq_true, cond_true, cond_false, if_false, if_true, reduceIte, reduceCtorEq, not_true_eq_false, not_false_eq_true, true_and, and_true, forall_const, false_and, and_false, implies_true, Za2, Za3, Za4, Za5]
  refine CallQ.of _ (c2 h).up ?_
  simp (disch := first | assumption | exact Ne.symm (by assumption) | omega) only [hF1, ↓ZD, ZU, ne_eq, Zaa, Zab, false_implies, Zac, Zad, Zae, Zaf, Zag, Zah, Zai, Zaj, Zak, Zal, Zam, Zan, Zao, Zap, Zaq, Zar, Zas, Zat, Zau, Zav, Zaw, Zax, Zay, Zaz, Za0, Za1, decide_true, decide_false, beq_self_eq_true, cond_true, cond_false, if_false, if_true, reduceIte, reduceCtorEq, not_true_eq_false, not_false_eq_true, true_and, and_true, forall_const, false_and, and_false, implies_true, Za2, Za3, Za4, Za5]
def sD (nm : Str) (a b : List At) : Sch := ⟨[⟨nm, [], a⟩, ⟨nU, [], []⟩], [⟨nV, [], [nU], [nm], b⟩]⟩
theorem repD {G : Base} {nm : Str} {a b : List At} {v0 v1 : Value} {b1 b2 b3 b4 : Nat} (hn : nm.length ≤ 1000000000) (ha : SlA G v0 a) (hb : SlA G v1 b)
    (h1 : G b1 = some (.cells #[.string (bs nm), .slice none 0 0, v0, .string (bs nU), .slice none 0 0, .slice none 0 0] 33 (0, 0)))
    (h2 : G b2 = some (.cells #[.string (bs nU)] 9 (0, 0))) (h3 : G b3 = some (.cells #[.string (bs nm)] 9 (0, 0)))
    (h4 : G b4 = some (.cells #[.string (bs nV), .slice none 0 0, .slice (some ⟨b2, 0, none⟩) 1 1, .slice (some ⟨b3, 0, none⟩) 1 1, v1] 37 (0, 0))) :
    RepH G [.slice (some ⟨b1, 0, none⟩) 2 2, .slice (some ⟨b4, 0, none⟩) 1 1] (sD nm a b) := by
  have one : ∀ (b : Nat) (s : Str), G b = some (.cells #[.string (bs s)] 9 (0, 0)) → s.length ≤ 1000000000 → SlS G (.slice (some ⟨b, 0, none⟩) 1 1) [s] := fun b s h hl => by
    refine ⟨_, 1, rfl, by simp, by simp, fun i x hx => ?_, fun i x hx => ?_⟩
    all_goals
      rcases i with _ | i
      · simp only [List.getElem?_cons_zero, Option.some.injEq] at hx
        subst hx
        first | omega | exact ⟨b, 0, _, _, _, rfl, h, by simp, by simp⟩
      · simp at hx
  have nS : SlS G (.slice none 0 0) [] := ⟨_, 0, rfl, by simp, by simp, fun i x hx => by simp at hx, fun i x hx => by simp at hx⟩
  have nAt : SlA G (.slice none 0 0) [] := ⟨_, 0, fun _ => [], rfl, by simp, by simp, ⟨fun i x hx => by simp at hx, fun i x hx => by simp at hx⟩, fun i x hx => by simp at hx⟩
  refine RepH.mk (some ⟨b1, 0, none⟩) (some ⟨b4, 0, none⟩) 2 1 [⟨nm, [], a⟩, ⟨nU, [], []⟩] [⟨nV, [], [nU], [nm], b⟩]
    (fun i => if i = 0 then [.string (bs nm), .slice none 0 0, v0] else [.string (bs nU), .slice none 0 0, .slice none 0 0])
    (fun i => [.string (bs nV), .slice none 0 0, .slice (some ⟨b2, 0, none⟩) 1 1, .slice (some ⟨b3, 0, none⟩) 1 1, v1])
    (by simp) (by simp) (by simp) (by simp) (fun i x hx => ?_) (fun i x hx => ?_)
  · rcases i with _ | _ | i
    · simp only [List.getElem?_cons_zero, Option.some.injEq] at hx
      subst hx
      exact ⟨⟨b1, 0, _, _, _, rfl, h1, by simp, by simp⟩, _, _, rfl, by simp only; omega, nS, ha⟩
    · simp only [List.getElem?_cons_succ, List.getElem?_cons_zero, Option.some.injEq] at hx
      subst hx
      exact ⟨⟨b1, 0, _, _, _, rfl, h1, by simp, by simp⟩, _, _, rfl, by simp, nS, nAt⟩
    · simp at hx
  · rcases i with _ | i
    · simp only [List.getElem?_cons_zero, Option.some.injEq] at hx
      subst hx
      exact ⟨⟨b4, 0, _, _, _, rfl, h4, by simp, by simp⟩, _, _, _, _, rfl, by simp, nS, one b2 nU h2 (by simp), one b3 nm h3 hn, hb⟩
    · simp at hx
theorem attrs_law (F : Base) (hg : HasM F) {v0 v1 : Value} {a b : List At} (ha : SlA F v0 a) (hb : SlA F v1 b) (nm : Str) (hn : nm.length ≤ 1000000000) : PureV Tryd.prog F 7 #[v0, v1, .string (bs nm)] (.bool true) := by
  have haw := awake_pure F hg
  have ha0 := ha
  have hb0 := hb
  obtain ⟨a0, c0, _, rfl, -⟩ := ha
  obtain ⟨a1, c1, _, rfl, -⟩ := hb
  refine pureV_of_svc mixed Tryd.func7 low7 (Nat.le_of_ble_eq_true rfl) (fun w0 => ?_)
  simp (disch := first | assumption | exact Ne.symm (by assumption) | omega) only [fu7, ↓ZD, ZU, ne_eq, Zaa, Zab, false_implies, Zac, Zad, Zae, Zaf, Zag, Zah, Zai, Zaj, Zak, Zal, Zam, Zan, Zao, Zap, Zaq, Zar, Zas, Zat, Zau, Zav, Zaw, Zax, Zay, Zaz, Za0, Za1, decide_true, decide_false, beq_self_eq_true, cond_true, cond_false, if_false, if_true, reduceIte, reduceCtorEq, not_true_eq_false, not_false_eq_true, true_and, and_true, forall_const, false_and, and_false, implies_true, Za2, Za3, Za4, Za5]
  refine CallE.pure haw ?_
  simp (disch := first | assumption | exact Ne.symm (by assumption) | omega) only [↓ZD, ZU, ne_eq, Zaa, Zab, false_implies, Zac, Zad, Zae, Zaf, Zag, Zah, Zai, Zaj, Zak, Zal, Zam, Zan, Zao, Zap, Zaq, Zar, Zas, Zat, Zau, Zav, Zaw, Zax, Zay, Zaz, Za0, Za1, decide_true, decide_false, beq_self_eq_true, cond_true, cond_false, if_false, if_true, reduceIte, reduceCtorEq, not_true_eq_false, not_false_eq_true, true_and, and_true, forall_const, false_and, and_false, implies_true, Za2, Za3, Za4, Za5]
  refine NewB.of fun b17 hb17 hF17 => ?_
  simp (disch := first | assumption | exact Ne.symm (by assumption) | omega) only [↓ZD, ZU, ne_eq, Zaa, Zab, false_implies, Zac, Zad, Zae, Zaf, Zag, Zah, Zai, Zaj, Zak, Zal, Zam, Zan, Zao, Zap, Zaq, Zar, Zas, Zat, Zau, Zav, Zaw, Zax, Zay, Zaz, Za0, Za1, decide_true, decide_false, beq_self_eq_true, cond_true, cond_false, if_false, if_true, reduceIte, reduceCtorEq, not_true_eq_false, not_false_eq_true, true_and, and_true, forall_const, false_and, and_false, implies_true, Za2, Za3, Za4, Za5]
  refine NewB.of fun b18 hb18 hF18 => ?_
  simp only [List.forall_mem_cons] at hb18
  obtain ⟨_, hb18⟩ := hb18
  simp (disch := first | assumption | exact Ne.symm (by assumption) | omega) only [↓ZD, ZU, ne_eq, Zaa, Zab, false_implies, Zac, Zad, Zae, Zaf, Zag, Zah, Zai, Zaj, Zak, Zal, Zam, Zan, Zao, Zap, Zaq, Zar, Zas, Zat, Zau, Zav, Zaw, Zax, Zay, Zaz, Za0, Za1, decide_true, decide_false, beq_self_eq_true, cond_true, cond_false, if_false, if_true, reduceIte, reduceCtorEq, not_true_eq_false, not_false_eq_true, true_and, and_true, forall_const, false_and, and_false, implies_true, Za2, Za3, Za4, Za5]
  refine NewB.of fun b20 hb20 hF20 => ?_
  simp only [List.forall_mem_cons] at hb20
  obtain ⟨_, _, hb20⟩ := hb20
  simp (disch := first | assumption | exact Ne.symm (by assumption) | omega) only [↓ZD, ZU, ne_eq, Zaa, Zab, false_implies, Zac, Zad, Zae, Zaf, Zag, Zah, Zai, Zaj, Zak, Zal, Zam, Zan, Zao, Zap, Zaq, Zar, Zas, Zat, Zau, Zav, Zaw, Zax, Zay, Zaz, Za0, Za1, decide_true, decide_false, beq_self_eq_true, cond_true, cond_false, if_false, if_true, reduceIte, reduceCtorEq, not_true_eq_false, not_false_eq_true, true_and, and_true, forall_const, false_and, and_false, implies_true, Za2, Za3, Za4, Za5]
  refine NewB.of fun b23 hb23 hF23 => ?_
  simp only [List.forall_mem_cons] at hb23
  obtain ⟨_, _, _, hb23⟩ := hb23
  simp (disch := first | assumption | exact Ne.symm (by assumption) | omega) only [↓ZD, ZU, ne_eq, Zaa, Zab, false_implies, Zac, Zad, Zae, Zaf, Zag, Zah, Zai, Zaj, Zak, Zal, Zam, Zan, Zao, Zap, Zaq, Zar, Zas, Zat, Zau, Zav, Zaw, Zax, Zay, Zaz, Za0, Za1, decide_true, decide_false, beq_self_eq_true, cond_true, cond_false, if_false, if_true, reduceIte, reduceCtorEq, not_true_eq_false, not_false_eq_true, true_and, and_true, forall_const, false_and, and_false, implies_true, Za2, Za3, Za4, Za5]
  refine NewB.of fun b8 hb8 hF8 => ?_
  simp only [List.forall_mem_cons] at hb8
  obtain ⟨_, _, _, _, hb8⟩ := hb8
  simp (disch := first | assumption | exact Ne.symm (by assumption) | omega) only [hF8, hF17, hF18, hF20, hF23, ↓ZD, ZU, ne_eq, Zaa, Zab, false_implies, Zac, Zad, Zae, Zaf, Zag, Zah, Zai, Zaj, Zak, Zal, Zam, Zan, Zao, Zap, Zaq, Zar, Zas, Zat, Zau, Zav, Zaw, Zax, Zay, Zaz, Za0, Za1, decide_true, decide_false, beq_self_eq_true, cond_true, cond_false, if_false, if_true, reduceIte, reduceCtorEq, not_true_eq_false, not_false_eq_true, true_and, and_true, forall_const, false_and, and_false, implies_true, Za2, Za3, Za4, Za5]
  have hR : RepH (rdObj F [(b8, .cells #[.slice (some ⟨b17, 0, none⟩) 2 2, .slice (some ⟨b23, 0, none⟩) 1 1] 25 (0, 0)), (b23, .cells #[.string (bs nV), .slice none 0 0, .slice (some ⟨b18, 0, none⟩) 1 1, .slice (some ⟨b20, 0, none⟩) 1 1, .slice a1 b.length c1] 37 (0, 0)),
      (b20, .cells #[.string (bs nm)] 9 (0, 0)), (b18, .cells #[.string (bs nU)] 9 (0, 0)), (b17, .cells #[.string (bs nm), .slice none 0 0, .slice a0 a.length c0, .string (bs nU), .slice none 0 0, .slice none 0 0] 33 (0, 0))]) [.slice (some ⟨b17, 0, none⟩) 2 2, .slice (some ⟨b23, 0, none⟩) 1 1] (sD nm a b) :=
    repD hn (ha0.mono le_up) (hb0.mono le_up) (b2 := b18) (b3 := b20) (by simp (disch := first | assumption | exact Ne.symm (by assumption) | omega) only [hF8, hF17, hF18, hF20, hF23, ↓ZD, ZU, ne_eq, Zaa, Zab, false_implies, Zac, Zad, Zae, Zaf, Zag, Zah, Zai, Zaj, Zak, Zal, Zam, Zan, Zao, Zap, Zaq, Zar, Zas, Zat, Zau, Zav, Zaw, Zax, Zay, Zaz, Za0, Za1, decide_true, decide_false, beq_self_eq_true, cond_true, cond_false, if_false, if_true, reduceIte, reduceCtorEq, not_true_eq_false, not_false_eq_true, true_and, and_true, forall_const, false_and, and_false, implies_true, Za2, Za3, Za4, Za5]) (by simp (disch := first | assumption | exact Ne.symm (by assumption) | omega) only [hF8, hF17, hF18, hF20, hF23, ↓ZD, ZU, ne_eq, Zaa, Zab, false_implies, Zac, Zad, Zae, Zaf, Zag, Zah, Zai, Zaj, Zak, Zal, Zam, Zan, Zao, Zap, Zaq, Zar, Zas, Zat, Zau, Zav, Zaw, Zax, Zay, Zaz, Za0, Za1, decide_true, decide_false, beq_self_eq_true, cond_true, cond_false, if_false, if_true, reduceIte, reduceCtorEq, not_true_eq_false, not_false_eq_true, true_and, and_true, forall_const, false_and, and_false, implies_true, Za2, Za3, Za4, Za5]) (by simp (disch := first | assumption | exact Ne.symm (by assumption) | omega) only [hF8, hF17, hF18, hF20, hF23, ↓ZD, ZU, ne_eq, Zaa, Zab, false_implies, Zac, Zad, Zae, Zaf, Zag, Zah, Zai, Zaj, Zak, Zal, Zam, Zan, Zao, Zap, Zaq, Zar, Zas, Zat, Zau, Zav, Zaw, Zax, Zay, Zaz, Za0, Za1, decide_true, decide_false, beq_self_eq_true, cond_true, cond_false, if_false, if_true, reduceIte, reduceCtorEq, not_true_eq_false, not_false_eq_true, true_and, and_true, forall_const, false_and, and_false, implies_true, Za2, Za3, Za4, Za5]) (by simp (disch := first | assumption | exact Ne.symm (by assumption) | omega) only [hF8, hF17, hF18, hF20, hF23, ↓ZD, ZU, ne_eq, Zaa, Zab, false_implies, Zac, Zad, Zae, Zaf, Zag, Zah, Zai, Zaj, Zak, Zal, Zam, Zan, Zao, Zap, Zaq, Zar, Zas, Zat, Zau, Zav, Zaw, Zax, Zay, Zaz, Za0, Za1, decide_true, decide_false, beq_self_eq_true, cond_true, cond_false, if_false, if_true, reduceIte, reduceCtorEq, not_true_eq_false, not_false_eq_true, true_and, and_true, forall_const, false_and, and_false, implies_true, Za2, Za3, Za4, Za5])
  have hz := sized_pure _ hR
  have hnn : ∀ t ∈ (sD nm a b).types, t.name.length ≤ 1000000000 := fun t ht => by
    simp only [sD, List.mem_cons, List.not_mem_nil, or_false] at ht
    rcases ht with rfl | rfl
    · exact hn
    · simp
  have c1 := fun h => schema_check _ (hg.mono le_up) hR (szd_OkS h hnn)
  have c2 := fun h => rschema_check _ hR (szd_OkS h hnn)
  refine CallE.pureH hz ?_
  simp (disch := first | assumption | exact Ne.symm (by assumption) | omega) only [hF8, hF17, hF18, hF20, hF23, ↓ZD, ZU, ne_eq, Zaa, Zab, false_implies, Zac, Zad, Zae, Zaf, Zag, Zah, Zai, Zaj, Zak, Zal, Zam, Zan, Zao, Zap, Zaq, Zar, Zas, Zat, Zau, Zav, Zaw, Zax, Zay, Zaz, Za0, Za1, decide_true, decide_false, beq_self_eq_true, cond_true, cond_false, if_false, if_true, reduceIte, reduceCtorEq, not_true_eq_false, not_false_eq_true, true_and, and_true, forall_const, false_and, and_false, implies_true, Za2, Za3, Za4, Za5]
  intro h
  have h : szd (sD nm a b) = true := by simpa using h
  refine CallQ.of _ (c1 h) ?_
  simp (disch := first | assumption | exact Ne.symm (by assumption) | omega) only [hF8, hF17, hF18, hF20, hF23, ↓ZD, ZU, ne_eq, Zaa, Zab, false_implies, Zac, Zad, Zae, Zaf, Zag, Zah, Zai, Zaj, Zak, Zal, Zam, Zan, Zao, Zap, Zaq, Zar, Zas, Zat, Zau, Zav, Zaw, Zax, Zay, Zaz, Za0, Za1, decide_true, decide_false, beq_self_eq_true, cond_true, cond_false, if_false, if_true, reduceIte, reduceCtorEq, not_true_eq_false, not_false_eq_true, true_and, and_true, forall_const, false_and, and_false, implies_true, Za2, Za3, Za4, Za5]
  refine CallQ.of _ (c2 h) ?_
  simp (disch := first | assumption | exact Ne.symm (by assumption) | omega) only [hF8, hF17, hF18, hF20, hF23, ↓ZD, ZU, ne_eq, Zaa, Zab, false_implies, Zac, Zad, Zae, Zaf, Zag, Zah, Zai, Zaj, Zak, Zal, Zam, Zan, Zao, Zap, Zaq, Zar, Zas, Zat, Zau, Zav, Zaw, Zax, Zay, Zaz, Za0, Za1, decide_true, decide_false, beq_self_eq_true, cond_true, cond_false, if_false, if_true, reduceIte, reduceCtorEq, not_true_eq_false, not_false_eq_true, true_and, and_true, forall_const, false_and, and_false, implies_true, Za2, Za3, Za4, Za5]
end Go.Proofs.YtnnieekbklmgdaaDoor
namespace Go.Proofs.YtnnieekbklmgdaaDoor.schemaAttrsUpto
open Go Go.ChangeShapes Go.WideShapes Go.ChangeAt Go.RowKit
open Go.ChangeMaps (open_string shut_string)
set_option linter.unusedVariables false

theorem own : ownKnob Tryd.prog.godebug = none := by kernel_rfl
theorem laidOut : laidOutB Tryd.prog = true := by kernel_rfl
theorem walk (v0 : Value) (t0 : List At) (v1 : Value) (t1 : List At) (a2 : ByteArray) (w : World) (w0 : SlA (fun b => w.heap[b]?) v0 t0) (w1 : SlA (fun b => w.heap[b]?) v1 t1) (w2 : a2.size ≤ 1048576) (hsh : w.ShapedOpen Tryd.prog) (hL : laidMetH Tryd.prog Rows.schemaAttrsUptoRow.laid w) :
    Calls Tryd.prog 7 #[v0, v1, .string a2] w fun e w' => e = .returned (.bool true) ∧ Below w.heap.size w w' := by
  exact attrs_law (fun b => w.heap[b]?) (hasM_of hsh) w0 w1 a2.data.toList (Nat.le_trans w2 (by decide)) w (fun _ _ h => h)

set_option maxRecDepth 100000 in
theorem laid_met (os : Os) (args : Array Value) : laidMetH Tryd.prog Rows.schemaAttrsUptoRow.laid ((World.laidAll Tryd.prog os Rows.schemaAttrsUptoRow.laid).forCall (fun _ _ => 0) ⟨#[], args, []⟩).memory := by
  rw [MakeChecks.laidMetH_plain _ _ _ (by kernel_rfl)]
  exact laidMet_laidAll args (by kernel_rfl) (by kernel_rfl)
set_option maxRecDepth 100000 in
theorem lifted (os : Os) (started : os.Started) (H : Type) (enc : TypeId × Value → H) (G : Stop.Interp) :
    ReturnsInHanded {} Tryd.checked os 7 .any (fun w args => ((Rows.OpenSpec.upto Rows.schemaAttrsSpec).pre enc Tryd.prog Tryd.f7 Rows.schemaAttrsUptoRow.domain false w args ∧ laidMetH Tryd.prog Rows.schemaAttrsUptoRow.laid w) ∧ sizedMet enc Tryd.prog Tryd.f7 (Rows.OpenSpec.upto Rows.schemaAttrsSpec) false w args) (((Rows.OpenSpec.upto Rows.schemaAttrsSpec).at G).post enc Tryd.prog Tryd.f7 false true false false) := by
  refine returnsInHanded_upto (C := Tryd.checked) (s := Rows.OpenSpec.upto Rows.schemaAttrsSpec) (k := Rows.uptoSmall) rfl (X := fun w _ => laidMetH Tryd.prog Rows.schemaAttrsUptoRow.laid w) (fun _ _ _ hh h => h.of_heap hh) own started (by kernel_rfl) Tryd.func7
    (upto_witness (enc := enc) (C := Tryd.checked) (os := os) (s := Rows.OpenSpec.upto Rows.schemaAttrsSpec) (k := Rows.uptoSmall) rfl (X := fun w _ => laidMetH Tryd.prog Rows.schemaAttrsUptoRow.laid w) false (World.laidAll Tryd.prog os Rows.schemaAttrsUptoRow.laid) #[.slice none 0 0, .slice none 0 0, .string ByteArray.empty] 8 (World.laidAll_os _ _ _) (by kernel_rfl) (by kernel_rfl) (by kernel_rfl) (by kernel_rfl) (by kernel_rfl) (laid_met os _)) ?_
  intro W base args ds gs before hval0 hW hcnd hblk0 hL hsh
  have hval : ∀ (j : Nat) t v, Tryd.f7.params[j]? = some t → args[j]? = some v → Value.okWide Tryd.prog W .any base t v := hval0
  have hW' := hW
  obtain ⟨p, q, hA0, hV, rfl, hfz, hnd⟩ := hW
  have hA : DataW.TrodAll enc Tryd.prog W 0 (fun _ => true) true Tryd.f7.params.toList args.toList ds p := hA0
  rw [Tryd.params7] at hA hval
  obtain ⟨v0, vs0, d0, ds0, p0, q0, hargs, rfl, rfl, h0, r0⟩ := trodAll_cons hA
  obtain ⟨v1, vs1, d1, ds1, p1, q1, rfl, rfl, rfl, h1, r1⟩ := trodAll_cons r0
  obtain ⟨v2, vs2, d2, ds2, p2, q2, rfl, rfl, rfl, h2, r2⟩ := trodAll_cons r1
  obtain ⟨rfl, rfl, rfl⟩ := trodAll_nil r2
  obtain rfl : args = #[v0, v1, v2] := by cases args; simp_all
  obtain ⟨rfl, rfl⟩ := trodVars_none hV
  have hblk := bulk_all hblk0
  have k0 := h0
  have lt0 : ∀ x ∈ p0, x.block < W.heap.size := by obtain ⟨m, hm⟩ := k0; exact DataW.trod_lt m _ _ _ hm
  obtain ⟨sa0, sl0, sc0, rfl⟩ := okWide_slice Tryd.underlying31 (hval 0 31 v0 rfl rfl)
  obtain ⟨t0, w0⟩ : ∃ t, SlA (fun b => W.heap[b]?) (.slice sa0 sl0 sc0) t := by
    obtain ⟨fuel, hf⟩ := h0
    obtain ⟨v, t, e, hv⟩ := open_attrs_u fuel _ _ hf (bulk_at (i := 0) hblk rfl)
    obtain rfl : Value.slice sa0 sl0 sc0 = v := by simpa [Value.cells] using e
    exact ⟨t, hv⟩
  have k1 := h1
  have lt1 : ∀ x ∈ p1, x.block < W.heap.size := by obtain ⟨m, hm⟩ := k1; exact DataW.trod_lt m _ _ _ hm
  obtain ⟨sa1, sl1, sc1, rfl⟩ := okWide_slice Tryd.underlying31 (hval 1 31 v1 rfl rfl)
  obtain ⟨t1, w1⟩ : ∃ t, SlA (fun b => W.heap[b]?) (.slice sa1 sl1 sc1) t := by
    obtain ⟨fuel, hf⟩ := h1
    obtain ⟨v, t, e, hv⟩ := open_attrs_u fuel _ _ hf (bulk_at (i := 1) hblk rfl)
    obtain rfl : Value.slice sa1 sl1 sc1 = v := by simpa [Value.cells] using e
    exact ⟨t, hv⟩
  obtain ⟨a2, rfl, rfl, rfl, w2⟩ := open_string Tryd.underlying9 (hval 2 9 v2 rfl rfl) h2
  have b2 : a2.size ≤ 1048576 := bulk_string (bulk_at (i := 2) hblk rfl)
  clear hA0 hval0
  refine (walk _ t0 _ t1 a2 W w0 w1 b2 hsh hL).mono fun e W' ⟨he, bel⟩ => ?_
  subst he
  exact ⟨_, rfl, _, _, _, [], _, [], hW', trodAll_mk1 (shut_bool Tryd.underlying4 _), (trodAll_cons_mk (Below.trod laidOut (by kernel_rfl) (of_decide_eq_true (by kernel_rfl)) k0 bel lt0) (trodAll_cons_mk (Below.trod laidOut (by kernel_rfl) (of_decide_eq_true (by kernel_rfl)) k1 bel lt1) (trodAll_cons_mk (shut_string Tryd.underlying9 w2) trodAll_mk0))), rfl, bel.frame _, fun h => by cases h⟩
theorem over : Rows.schemaAttrsUptoRow.holds Tryd.pinned (Rows.OpenSpec.upto Rows.schemaAttrsSpec) :=
  OpenClaim.holds_of_cond 7 Tryd.f7 rfl rfl rfl rfl rfl rfl rfl ⟨rfl, rfl, rfl, rfl, rfl⟩ rfl rfl rfl rfl rfl (by kernel_rfl) Tryd.func7 (by kernel_rfl)
    (of_decide_eq_true (by kernel_rfl)) (by unfold Func.isWrapper; first | (rw [if_pos (by decide +kernel)]; kernel_rfl) | (rw [if_neg (by decide +kernel)]; exact ⟨rfl, rfl⟩))
    (fun os started H enc _ G => lifted os started H enc G)
theorem proved : Rows.SchemaAttrsUptoCardSaid :=
  Claim7.holds_tied_plain_at .later [] [.data, .pinned] true (true, "7e76be3e1e9495098fe0d596c9d577010a9804cd9a21972032f764208a0ccf71") false
    over (fun _ h => by cases h) (by kernel_rfl) (fun _ h => by cases h) schemaAttrsUpto_row_tie rfl ⟨rfl, rfl⟩ (by kernel_rfl) rfl
    (fun f fn hf hfn => by
      obtain rfl : f = 7 := Option.some.inj ((show Tryd.prog.funcNamed "chamberlain/chamberlainlaw12.SchemaAttrs" = some 7 by kernel_rfl).symm.trans hf) |>.symm
      obtain rfl : fn = Tryd.f7 := (Option.some.inj (Tryd.func7.symm.trans hfn)).symm
      exact ⟨by kernel_rfl, fun j t ht => by
        have hm : t ∈ [31, 9] := by
          have := Array.mem_of_getElem? ht
          rw [Tryd.params7] at this
          simpa using this
        have hall : ([31, 9].all fun u => !Tryd.prog.wantsStandIn u) = true := by kernel_rfl
        exact (show Tryd.prog.wantsStandIn t = false by simpa using List.all_eq_true.1 hall t hm)⟩)
    (by kernel_rfl)
#print axioms proved
end Go.Proofs.YtnnieekbklmgdaaDoor.schemaAttrsUpto
