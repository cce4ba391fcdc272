/- Layer 10: every argument of a bulk holds scopes, policies that are no more; the second form. -/
import Derived.Test.YtoelfmmfjebabaaDoorPoA
import Derived.Handed
import Derived.HandedShaped
import Derived.JoinedCond
namespace Go.Proofs.YtoelfmmfjebabaaDoor
open Go Go.Eng
open Int renaming reduceEq → Za, reduceToNat → Zm, reduceLE → Zn, reduceLT → Zo, reduceAdd → Zp, reduceSub → Zq, reduceNeg → Zr, reducePow → Zt, reduceNegSucc → Zv
open UInt8 renaming reduceOfNat → Zb
open List renaming mapM_cons → Zc, mapM_nil → Zd
open Nat renaming reduceAdd → Ze, reduceMul → Zf, reduceMod → Zg, reduceDiv → Zh, reduceEqDiff → Zi, reduceBEq → Zj, reduceLeDiff → Zk, reduceSub → Zl, reducePow → Zs, reduceLT → Zu
set_option linter.unusedSimpArgs false
set_option linter.unusedVariables false
set_option maxRecDepth 20000

/-! ### The second form: what is read is of bulk at most 1048576 -/
section
variable {H : Type} {enc : TypeId × Value → H}
theorem returnsInHanded_upto {a : Assume} {C : Checked} {os : Os} {f : FuncId} {fn : Func} {s : OpenSpec} {k : (H : Type) → List (DataW H) → Bool} (hk : s.cond = some k) {G : Stop.Interp} {conds : List PathCond} {apart fresh handsOn again : Bool} {X : World → Array Value → Prop}
    (hX : ∀ (w w' : World) (args : Array Value), w.heap = w'.heap → X w args → X w' args)
    (own : ownKnob C.prog.godebug = none) (started : os.Started) (noInit : C.prog.inits.idxOf? f = none) (hfn : C.prog.funcs[f]? = some fn)
    (witness : ∃ (w : World) (tape : Tape) (i : Input), w.os = os ∧ (w.forCall tape i).Shaped C.prog ∧ i.vars = [] ∧ Input.okWide C.prog (w.forCall tape i) .any w.heap.size f i ∧
      ((s.pre enc C.prog fn conds apart (w.forCall tape i).memory i.args ∧ X (w.forCall tape i).memory i.args) ∧ sizedMet enc C.prog fn s apart (w.forCall tape i).memory i.args) ∧ a.holds C.prog (lone (Frame.enter C.prog f i.args .normal) [] (w.forCall tape i)))
    (contract : ∀ (W : World) (base : Nat) (args : Array Value) (ds gs : List (DataW H)) (before : List MemPlace),
      (∀ (j : Nat) t v, fn.params[j]? = some t → args[j]? = some v → Value.okWide C.prog W .any base t v) →
      DataW.Whole enc C.prog fn.params.toList s.vars apart W args.toList ds gs before →
      conds.all (PathCond.test C.prog ⟨fn.params.toList, ds, s.bare.plain.varTypes C.prog, gs⟩) = true → k H (ds ++ gs) = true →
      X W args → W.ShapedOpen C.prog →
      Calls C.prog f args W fun e W' => ∃ v, e = .returned v ∧ (s.at G).post enc C.prog fn apart fresh handsOn again W args v W') :
    ReturnsInHanded a C os f .any (fun w args => (s.pre enc C.prog fn conds apart w args ∧ X w args) ∧ sizedMet enc C.prog fn s apart w args) ((s.at G).post enc C.prog fn apart fresh handsOn again) := by
  refine returnsInHanded_of_calls own started noInit witness ?_
  intro w tape i _ hsh _ hok hpre _
  obtain ⟨_, _, _, fn', hfn', _, _, _, _, hval⟩ := hok
  have e : fn' = fn := Option.some.inj (hfn'.symm.trans hfn)
  subst e
  obtain ⟨⟨hp, hx⟩, _⟩ := hpre
  obtain ⟨ds, gs, before, hw, hc, hkk⟩ := (OpenSpec.pre_some hk conds apart _ _).1 hp
  have hw' := DataW.Whole.of_heap (w' := w.forCall tape i) (by rfl) hw
  refine (contract (w.forCall tape i) w.heap.size i.args ds gs before hval hw' hc hkk (hX _ _ _ (by rfl) hx) hsh).mono fun e W' ⟨v, he, hp⟩ => ?_
  subst he
  exact ChangeSpec.post_blind hp
def upPreB (enc : TypeId × Value → H) (P : Program) (f : Func) (s : OpenSpec) (k : (H : Type) → List (DataW H) → Bool) (conds : List PathCond) (apart : Bool) (w : World) (args : Array Value) (fuel : Nat) : Bool :=
  match DataW.whole enc P w f.params.toList s.vars apart args.toList fuel with
  | some x => conds.all (PathCond.test P ⟨f.params.toList, x.1, s.bare.plain.varTypes P, x.2.1⟩) && k H (x.1 ++ x.2.1)
  | none => false
theorem upPre_of {P : Program} {f : Func} {s : OpenSpec} {k : (H : Type) → List (DataW H) → Bool} (hk : s.cond = some k) {conds : List PathCond} {apart : Bool} {w : World} {args : Array Value} {fuel : Nat}
    (h : upPreB enc P f s k conds apart w args fuel = true) : s.pre enc P f conds apart w args := by
  unfold upPreB at h
  split at h
  · rename_i x hx
    rw [Bool.and_eq_true] at h
    exact (OpenSpec.pre_some hk conds apart _ _).2 ⟨x.1, x.2.1, x.2.2, DataW.Whole_of_whole hx, h.1, h.2⟩
  · cases h
theorem upto_witness {C : Checked} {os : Os} {f : FuncId} {fn : Func} {s : OpenSpec} {k : (H : Type) → List (DataW H) → Bool} (hk : s.cond = some k) {conds : List PathCond} {apart : Bool} {X : World → Array Value → Prop} (modest : Bool) (w0 : World) (args : Array Value) (fuel : Nat) (hos : w0.os = os)
    (hv : (w0.forCall (fun _ _ => 0) ⟨#[], args, []⟩).variablesB C.prog = true)
    (hr : ((w0.forCall (fun _ _ => 0) ⟨#[], args, []⟩).heap.toList.drop C.prog.globals.size).take ((begin C.prog (fun _ _ => 0) default).world.heap.size - C.prog.globals.size) =
      (begin C.prog (fun _ _ => 0) default).world.heap.toList.drop C.prog.globals.size)
    (hok : Input.okWideB C.prog (w0.forCall (fun _ _ => 0) ⟨#[], args, []⟩) f ⟨#[], args, []⟩ = true)
    (hpre : upPreB enc C.prog fn s k conds apart (w0.forCall (fun _ _ => 0) ⟨#[], args, []⟩).memory args fuel = true)
    (hsz : s.bare.sizedB enc C.prog fn apart (w0.forCall (fun _ _ => 0) ⟨#[], args, []⟩).memory args fuel = true)
    (hx : X (w0.forCall (fun _ _ => 0) ⟨#[], args, []⟩).memory args) :
    ∃ (w : World) (tape : Tape) (i : Input), w.os = os ∧ (w.forCall tape i).Shaped C.prog ∧ i.vars = [] ∧ Input.okWide C.prog (w.forCall tape i) .any w.heap.size f i ∧
      ((s.pre enc C.prog fn conds apart (w.forCall tape i).memory i.args ∧ X (w.forCall tape i).memory i.args) ∧ sizedMet enc C.prog fn s apart (w.forCall tape i).memory i.args) ∧ ({ modest := modest } : Assume).holds C.prog (lone (Frame.enter C.prog f i.args .normal) [] (w.forCall tape i)) :=
  ⟨w0, fun _ _ => 0, ⟨#[], args, []⟩, hos, World.shaped_of_B hv hr, (Input.okWide_of_okWideB (base := 0) hok).1, (Input.okWide_of_okWideB hok).2, ⟨⟨upPre_of hk hpre, hx⟩, sizedMet_of_sizedB hsz⟩, by
    simp only [Assume.holds]
    exact ⟨by simp, by simp, fun _ => Modest.zero, by simp, by simp⟩⟩
theorem bulk_all {l : List (DataW H)} (h : Rows.uptoSmall H l = true) : ∀ d ∈ l, Rows.uptoBulk d ≤ 1048576 := fun d hd => by
  have h1 : Rows.uptoBulkAll l ≤ 1048576 := of_decide_eq_true h
  exact Nat.le_trans (bulk_mem hd) h1
theorem bulk_at {l : List (DataW H)} {i : Nat} {d : DataW H} (h : ∀ d ∈ l, Rows.uptoBulk d ≤ 1048576) (e : l[i]? = some d) : Rows.uptoBulk d ≤ 1048576 := h d (List.mem_of_getElem? e)
theorem bulk_string {a : ByteArray} (h : Rows.uptoBulk (.lit (.string a.data.toList) : DataW H) ≤ 1048576) : a.size ≤ 1048576 := by
  simp only [Rows.uptoBulk] at h
  have e : a.size = a.data.toList.length := by rw [Array.length_toList]; rfl
  omega
variable {w : World} {spare : Nat → Bool} {held : Bool}
theorem cSc : Tryd.prog.cellsOf 41 = 6 := by kernel_rfl
theorem cUs : Tryd.prog.cellsOf 39 = 1 := by kernel_rfl
theorem cCo : Tryd.prog.cellsOf 46 = 13 := by kernel_rfl
theorem cCs : Tryd.prog.cellsOf 42 = 1 := by kernel_rfl
theorem cPo : Tryd.prog.cellsOf 44 = 21 := by kernel_rfl
theorem len6 {α : Type} {l : List α} (h : l.length = 6) : ∃ a b c d e f, l = [a, b, c, d, e, f] := by
  match l, h with | [a, b, c, d, e, f], _ => exact ⟨_, _, _, _, _, _, rfl⟩
theorem open_uids {fuel : Nat} {cs : List Value} {x : DataW H × List MemPlace} (h : DataW.trod enc Tryd.prog w 0 spare held fuel 39 cs = some x) : ∃ v l, cs = [v] ∧ RepU (fun b => w.heap[b]?) v l ∧ (l.map fun p => p.1.length + p.2.length + 3).sum + 1 ≤ Rows.uptoBulk x.1 := by
  obtain ⟨a, l, c, g, e, hl, hc, _, h1, h2, h3⟩ := open_slice_w (R := fun cs (p : Str × Str) => cs = [.string (bs p.1), .string (bs p.2)]) (f := fun p => p.1.length + p.2.length + 3) Tryd.underlying39 cU (by omega) h (fun m cs' y hm hy => by
    obtain ⟨ty, id, h1, h2⟩ := open_uid hy; exact ⟨(ty, id), h1, h2⟩)
  rw [maxLen_eq] at hl
  exact ⟨_, l, e, ⟨a, c, rfl, hc, hl, fun i p hp => by rw [← h2 i p hp]; exact h1 i p hp⟩, h3⟩
theorem open_scope {fuel : Nat} {cs : List Value} {x : DataW H × List MemPlace} (h : DataW.trod enc Tryd.prog w 0 spare held fuel 41 cs = some x) : ∃ s, RepSc (fun b => w.heap[b]?) cs s ∧ wtS s + 1 ≤ Rows.uptoBulk x.1 := by
  obtain ⟨xs, n, hf, hxe, hlen, hx, hfs⟩ := DataW.trod_struct Tryd.underlying41 h
  rw [cSc] at hlen
  have hxs : xs.length = 5 := hx
  obtain ⟨x0, x1, x2, x3, x4, rfl⟩ := len5 hxs
  match cs, hlen with
  | [v0, v1, v2, v3, v4, v5], _ =>
    have f0 : DataW.trod enc Tryd.prog w 0 spare held n 3 (List.take (Tryd.prog.cellsOf 3) (List.drop 0 [v0, v1, v2, v3, v4, v5])) = some x0 := hfs 0 _ rfl
    have f1 : DataW.trod enc Tryd.prog w 0 spare held n 9 (List.take (Tryd.prog.cellsOf 9) (List.drop 1 [v0, v1, v2, v3, v4, v5])) = some x1 := hfs 1 _ rfl
    have f2 : DataW.trod enc Tryd.prog w 0 spare held n 23 (List.take (Tryd.prog.cellsOf 23) (List.drop 2 [v0, v1, v2, v3, v4, v5])) = some x2 := hfs 2 _ rfl
    have f3 : DataW.trod enc Tryd.prog w 0 spare held n 4 (List.take (Tryd.prog.cellsOf 4) (List.drop 4 [v0, v1, v2, v3, v4, v5])) = some x3 := hfs 3 _ rfl
    have f4 : DataW.trod enc Tryd.prog w 0 spare held n 39 (List.take (Tryd.prog.cellsOf 39) (List.drop 5 [v0, v1, v2, v3, v4, v5])) = some x4 := hfs 4 _ rfl
    simp only [cI, cB, cS, cU, cUs, List.drop_zero, List.drop_succ_cons, List.take_succ_cons, List.take_zero] at f0 f1 f2 f3 f4
    obtain ⟨k, e0, _, hk⟩ := DataW.trod_int Tryd.underlying3 f0
    obtain ⟨ty, e1, _, b1⟩ := open_str f1
    obtain ⟨ut, ui, e2, b2⟩ := open_uid f2
    obtain ⟨bo, e3, _⟩ := DataW.trod_bool Tryd.underlying4 f3
    obtain ⟨v, l, e4, hu, b4⟩ := open_uids f4
    have p0 := bulk_pos x0.1
    have p3 := bulk_pos x3.1
    simp only [List.cons.injEq, and_true] at e0 e1 e2 e3 e4
    refine ⟨⟨k, ty, ut, ui, bo, l⟩, ⟨v, by rw [e0, e1, e2.1, e2.2, e3, e4]; rfl, wf_i64 hk, hu⟩, ?_⟩
    rw [hxe]
    simp only [wtS, Rows.uptoBulk, List.map_cons, List.map_nil, Rows.uptoBulkAll]
    omega
theorem open_cond {fuel : Nat} {cs : List Value} {x : DataW H × List MemPlace} (h : DataW.trod enc Tryd.prog w 0 spare held fuel 46 cs = some x) : ∃ c : Bool × Ex', (∃ g, cs = .bool c.1 :: g ∧ RepX (fun b => w.heap[b]?) g c.2) ∧ wt c.2 ≤ Rows.uptoBulk x.1 := by
  obtain ⟨xs, n, hf, hxe, hlen, hx, hfs⟩ := DataW.trod_struct Tryd.underlying46 h
  rw [cCo] at hlen
  have hxs : xs.length = 2 := hx
  obtain ⟨x0, x1, rfl⟩ := len2 hxs
  match cs, hlen with
  | [v0, v1, v2, v3, v4, v5, v6, v7, v8, v9, v10, v11, v12], _ =>
    have f0 : DataW.trod enc Tryd.prog w 0 spare held n 4 (List.take (Tryd.prog.cellsOf 4) (List.drop 0 [v0, v1, v2, v3, v4, v5, v6, v7, v8, v9, v10, v11, v12])) = some x0 := hfs 0 _ rfl
    have f1 : DataW.trod enc Tryd.prog w 0 spare held n 30 (List.take (Tryd.prog.cellsOf 30) (List.drop 1 [v0, v1, v2, v3, v4, v5, v6, v7, v8, v9, v10, v11, v12])) = some x1 := hfs 1 _ rfl
    simp only [cB, cX, List.drop_zero, List.drop_succ_cons, List.take_succ_cons, List.take_zero] at f0 f1
    obtain ⟨bo, e0, _⟩ := DataW.trod_bool Tryd.underlying4 f0
    obtain ⟨e, he, hb⟩ := open_ex _ _ _ f1
    simp only [List.cons.injEq, and_true] at e0
    refine ⟨(bo, e), ⟨_, by rw [e0], he⟩, ?_⟩
    rw [hxe]
    simp only [Rows.uptoBulk, List.map_cons, List.map_nil, Rows.uptoBulkAll]
    omega
theorem open_conds {fuel : Nat} {cs : List Value} {x : DataW H × List MemPlace} (h : DataW.trod enc Tryd.prog w 0 spare held fuel 42 cs = some x) : ∃ v l, cs = [v] ∧ RepCo (fun b => w.heap[b]?) v l ∧ (l.map fun c => wt c.2).sum + 1 ≤ Rows.uptoBulk x.1 := by
  obtain ⟨a, l, c, g, e, hl, hc, _, h1, h2, h3⟩ := open_slice_w (R := fun cs (c : Bool × Ex') => ∃ g, cs = .bool c.1 :: g ∧ RepX (fun b => w.heap[b]?) g c.2) (f := fun c => wt c.2) Tryd.underlying42 cCo (by omega) h (fun m cs' y hm hy => open_cond hy)
  rw [maxLen_eq] at hl
  refine ⟨_, l, e, ⟨a, c, fun i => (g i).tail, rfl, hc, hl, fun i p hp => ?_, fun i p hp => ?_⟩, h3⟩
  · obtain ⟨g', h4, h5⟩ := h2 i p hp
    have h6 := h1 i p hp
    show Cl _ a 13 i (Value.bool p.1 :: (g i).tail)
    rw [h4] at h6 ⊢
    exact h6
  · obtain ⟨g', h4, h5⟩ := h2 i p hp
    show RepX _ (g i).tail p.2
    rw [h4]
    exact h5
theorem open_pol {fuel : Nat} {cs : List Value} {x : DataW H × List MemPlace} (h : DataW.trod enc Tryd.prog w 0 spare held fuel 44 cs = some x) : ∃ s, RepPol (fun b => w.heap[b]?) cs s ∧ wtP s + 1 ≤ Rows.uptoBulk x.1 := by
  obtain ⟨xs, n, hf, hxe, hlen, hx, hfs⟩ := DataW.trod_struct Tryd.underlying44 h
  rw [cPo] at hlen
  have hxs : xs.length = 6 := hx
  obtain ⟨x0, x1, x2, x3, x4, x5, rfl⟩ := len6 hxs
  match cs, hlen with
  | [v0, v1, v2, v3, v4, v5, v6, v7, v8, v9, v10, v11, v12, v13, v14, v15, v16, v17, v18, v19, v20], _ =>
    have f0 : DataW.trod enc Tryd.prog w 0 spare held n 9 (List.take (Tryd.prog.cellsOf 9) (List.drop 0 [v0, v1, v2, v3, v4, v5, v6, v7, v8, v9, v10, v11, v12, v13, v14, v15, v16, v17, v18, v19, v20])) = some x0 := hfs 0 _ rfl
    have f1 : DataW.trod enc Tryd.prog w 0 spare held n 4 (List.take (Tryd.prog.cellsOf 4) (List.drop 1 [v0, v1, v2, v3, v4, v5, v6, v7, v8, v9, v10, v11, v12, v13, v14, v15, v16, v17, v18, v19, v20])) = some x1 := hfs 1 _ rfl
    have f2 : DataW.trod enc Tryd.prog w 0 spare held n 41 (List.take (Tryd.prog.cellsOf 41) (List.drop 2 [v0, v1, v2, v3, v4, v5, v6, v7, v8, v9, v10, v11, v12, v13, v14, v15, v16, v17, v18, v19, v20])) = some x2 := hfs 2 _ rfl
    have f3 : DataW.trod enc Tryd.prog w 0 spare held n 41 (List.take (Tryd.prog.cellsOf 41) (List.drop 8 [v0, v1, v2, v3, v4, v5, v6, v7, v8, v9, v10, v11, v12, v13, v14, v15, v16, v17, v18, v19, v20])) = some x3 := hfs 3 _ rfl
    have f4 : DataW.trod enc Tryd.prog w 0 spare held n 41 (List.take (Tryd.prog.cellsOf 41) (List.drop 14 [v0, v1, v2, v3, v4, v5, v6, v7, v8, v9, v10, v11, v12, v13, v14, v15, v16, v17, v18, v19, v20])) = some x4 := hfs 4 _ rfl
    have f5 : DataW.trod enc Tryd.prog w 0 spare held n 42 (List.take (Tryd.prog.cellsOf 42) (List.drop 20 [v0, v1, v2, v3, v4, v5, v6, v7, v8, v9, v10, v11, v12, v13, v14, v15, v16, v17, v18, v19, v20])) = some x5 := hfs 5 _ rfl
    simp only [cB, cS, cSc, cCs, List.drop_zero, List.drop_succ_cons, List.take_succ_cons, List.take_zero] at f0 f1 f2 f3 f4 f5
    obtain ⟨id, e0, _, b0⟩ := open_str f0
    obtain ⟨bo, e1, _⟩ := DataW.trod_bool Tryd.underlying4 f1
    obtain ⟨p, ⟨vp, e2, kp, up⟩, b2⟩ := open_scope f2
    obtain ⟨a, ⟨va, e3, ka, ua⟩, b3⟩ := open_scope f3
    obtain ⟨r, ⟨vr, e4, kr, ur⟩, b4⟩ := open_scope f4
    obtain ⟨vc, l, e5, uc, b5⟩ := open_conds f5
    simp only [scells, List.cons.injEq, and_true] at e0 e1 e2 e3 e4 e5
    obtain ⟨a0, a1, a2, a3, a4, a5⟩ := e2
    obtain ⟨c0, c1, c2, c3, c4, c5⟩ := e3
    obtain ⟨d0, d1, d2, d3, d4, d5⟩ := e4
    refine ⟨⟨id, bo, p, a, r, l⟩, ⟨vp, va, vr, vc, ?_, ⟨kp, ka, kr⟩, up, ua, ur, uc⟩, ?_⟩
    · rw [e0, e1, a0, a1, a2, a3, a4, a5, c0, c1, c2, c3, c4, c5, d0, d1, d2, d3, d4, d5, e5]; rfl
    · rw [hxe]
      simp only [wtP, Rows.uptoBulk, List.map_cons, List.map_nil, Rows.uptoBulkAll]
      omega
theorem open_pols {fuel : Nat} {cs : List Value} {x : DataW H × List MemPlace} (h : DataW.trod enc Tryd.prog w 0 spare held fuel 38 cs = some x) : ∃ v l, cs = [v] ∧ RepPols (fun b => w.heap[b]?) v l ∧ wtQ l + 1 ≤ Rows.uptoBulk x.1 := by
  obtain ⟨a, l, c, g, e, hl, hc, _, h1, h2, h3⟩ := open_slice_w (R := RepPol (fun b => w.heap[b]?)) (f := fun x => wtP x + 1) Tryd.underlying38 cPo (by omega) h (fun m cs' y hm hy => open_pol hy)
  rw [maxLen_eq] at hl
  exact ⟨_, l, e, ⟨a, c, g, rfl, hc, hl, h1, h2⟩, h3⟩
def RepXU (F : Base) (cs : List Value) (e : Ex') : Prop := RepX F cs e ∧ wt e ≤ 1048576
def RepPU (F : Base) (v : Value) (l : List Pol) : Prop := RepPols F v l ∧ wtQ l ≤ 1048576
theorem open_ex_u (fuel : Nat) (cs : List Value) (x : DataW H × List MemPlace) (h : DataW.trod enc Tryd.prog w 0 spare held fuel 30 cs = some x) (hb : Rows.uptoBulk x.1 ≤ 1048576) : ∃ e, RepXU (fun b => w.heap[b]?) cs e := by
  obtain ⟨e, he, h2⟩ := open_ex _ _ _ h
  exact ⟨e, he, Nat.le_trans h2 hb⟩
theorem open_pols_u (fuel : Nat) (cs : List Value) (x : DataW H × List MemPlace) (h : DataW.trod enc Tryd.prog w 0 spare held fuel 38 cs = some x) (hb : Rows.uptoBulk x.1 ≤ 1048576) : ∃ v l, cs = [v] ∧ RepPU (fun b => w.heap[b]?) v l := by
  obtain ⟨v, l, e, he, h2⟩ := open_pols h
  exact ⟨v, l, e, he, by omega⟩
theorem open_scope_u (fuel : Nat) (cs : List Value) (x : DataW H × List MemPlace) (h : DataW.trod enc Tryd.prog w 0 spare held fuel 41 cs = some x) : ∃ s, RepSc (fun b => w.heap[b]?) cs s ∧ wtS s + 1 ≤ Rows.uptoBulk x.1 := open_scope h
end
end Go.Proofs.YtoelfmmfjebabaaDoor
