/- The engine, part 8: calls; operations that make or write memory. -/
import Derived.Test.YtfholfocapjhfaaEng7
namespace Go.Eng
open Go

section
variable {P : Program} {F : Base} {H : Hp} {a : Act} {r rT rF : X → Option Value} {ob : Prop} {v : Value}

theorem semq_pushes : ∀ (l : List Value) (u : List UInt8) (s : ByteArray) (K : ByteArray → Prop), u8s l = some u → K ⟨(s.data.toList ++ u).toArray⟩ →
    semq P F H (forIn l s (fun c s => do
      let .int .u8 n := c | stuck "bytesToString: byte expected"
      pure (ForInStep.yield (s.push (UInt8.ofNat n.toNat))))) K
  | [], u, s, K, h, hK => by
    simp only [u8s, Option.some.injEq] at h
    subst h
    simpa [semq_pure] using hK
  | x :: l, u, s, K, h, hK => by
    unfold u8s at h
    split at h
    · rename_i heq; cases heq
    · rename_i n l' heq
      simp only [List.cons.injEq] at heq
      obtain ⟨rfl, rfl⟩ := heq
      simp only [Option.map_eq_some_iff] at h
      obtain ⟨u', hu, rfl⟩ := h
      simp only [List.forIn_cons, semq_bind, semq_pure]
      refine semq_pushes _ u' _ K hu ?_
      have : (s.push (UInt8.ofNat n.toNat)).data.toList = s.data.toList ++ [UInt8.ofNat n.toNat] := by simp
      rw [this]; simpa using hK
    · cases h

theorem gives_bstr (hr : Rd a r) {o : Oper} {s d e : TypeId} {x : Operand} (hop : o.op = .convert s d x) (hs : P.underlying s = some (.slice e)) (hd : P.underlying d = some .string) (he : P.underlying e = some (.int .u8))
    (hq : qev F H r rT rF (.bstr (X.of x)) = some (ob, v)) : Gives P F H a o v := by
  simp only [qev] at hq
  refine gives_v (s := convert s d (a.eval x)) (by unfold execOp; rw [hop]) ?_
  split at hq
  · rename_i n c h1
    simp only [Option.some.injEq, Prod.mk.injEq] at hq
    obtain ⟨rfl, rfl⟩ := hq
    rw [hr.ev h1]
    unfold convert
    simp only [semq_bind, semq_underlying hs, semq_underlying hd, semq_underlying he]
    exact rfl
  · rename_i b off n c h1
    split at hq
    case h_2 => cases hq
    rename_i l hl
    split at hq
    case h_2 => cases hq
    rename_i u hu
    simp only [Option.some.injEq, Prod.mk.injEq] at hq
    obtain ⟨rfl, rfl⟩ := hq
    rw [hr.ev h1]
    unfold convert
    simp only [semq_bind, semq_underlying hs, semq_underlying hd, semq_underlying he]
    unfold Conv.bytesToString
    simp only [semq_bind]
    refine semq_loadCells hl ?_
    rw [← Array.forIn_toList]
    refine semq_pushes l u _ _ hu ?_
    exact rfl
  · cases hq

def callable (P : Program) (f : Nat) : Bool := match P.funcs[f]? with
  | some fn => fn.body.isSome && !(fn.name == "runtime.NumGoroutine")
  | none => false

theorem semq_callFunc {f : Nat} (h : callable P f = true) (args : Array Value) {K : Next → Prop} : semq P F H (callFunc f args) K ↔ K (.enter f args) := by
  unfold callable at h
  split at h
  · rename_i fn hf
    simp only [Bool.and_eq_true, Bool.not_eq_true'] at h
    unfold callFunc
    simp only [semq_bind, program, semq, hf, h.2]
    have : fn.body.isNone = false := by cases hb : fn.body <;> simp_all
    simp only [Bool.false_eq_true, if_false, this]
    exact Iff.rfl
  · cases h

theorem sem_callFunc {f : Nat} (h : callable P f = true) (args : Array Value) {K : Next → Hp → Prop} (hK : K (.enter f args) H) : sem P F (callFunc f args) H K :=
  sem_mono _ _ _ _ (fun _ _ ⟨h1, h2⟩ => by subst h1; rw [← h2]; exact hK) (sem_of_semq _ _ ((semq_callFunc h args).2 rfl))

/-- A call by name. -/
theorem exec_call {o : Oper} {c : Call} {f : Nat} (hop : o.op = .call c) (hc : c.callee = .value (.func f)) : execOp a.eval o = callFunc f (c.args.map a.eval) := by
  unfold execOp
  rw [hop]
  simp only [resolve, hc]
  show invoke (.fn (.func f) #[]) (#[] ++ c.args.map a.eval) = _
  unfold invoke
  simp

/-- A call of a function value. -/
theorem exec_callV {o : Oper} {c : Call} {x : Operand} {f : Nat} {fi ca : Array Value} (hop : o.op = .call c) (hc : c.callee = .value x) (hx : a.eval x = .func (.func f) fi ca) :
    execOp a.eval o = callFunc f (fi ++ c.args.map a.eval ++ ca) := by
  unfold execOp
  rw [hop]
  simp only [resolve, hc, hx]
  rfl

/-- A call of a function that has no body: by its row. -/
theorem semq_row {f : Nat} {fn : Func} {row : Array Value → Sem Value} (hf : P.funcs[f]? = some fn) (h1 : (fn.name == "runtime.NumGoroutine") = false) (h2 : fn.body.isNone = true) (h3 : Extern.findNext fn = none) (h4 : Extern.find fn = some row)
    {args : Array Value} {v : Value} (h : semq P F H (row args) (fun x => x = v)) : semq P F H (callFunc f args) (fun n => n = .value v) := by
  unfold callFunc
  simp only [semq_bind, program, semq, hf, h1, h2, h3, h4, Bool.false_eq_true, if_false, if_true]
  unfold mark
  simp only [semq]
  exact semq_mono _ _ _ (fun x hx => by rw [hx]; exact rfl) h

/-- A function value that is pure at these arguments. -/
def PureF (P : Program) (F : Base) (fv : Value) (args : List Value) (v : Value) : Prop :=
  ∃ f fi ca, fv = .func (.func f) fi ca ∧ callable P f = true ∧ PureV P F f (fi ++ args.toArray ++ ca) v

def CallF (P : Program) (X : List Nat) (F : Base) (w0 : World) (fv : Value) (args : List Value) (H : Hp) (K : Value → Hp → Prop) : Prop :=
  ∃ f fi ca, fv = .func (.func f) fi ca ∧ callable P f = true ∧ CallG P X F w0 f (fi ++ args.toArray ++ ca) H K

/-! ### Memory -/
theorem sem_of_semq' {α : Type} {s : Sem α} {x : α} {K : α → Hp → Prop} (h : semq P F H s (fun y => y = x)) (hK : K x H) : sem P F s H K :=
  sem_mono _ _ _ _ (fun _ _ ⟨h1, h2⟩ => by rw [h1, h2]; exact hK) (sem_of_semq _ _ h)

theorem sem_zero {t : TypeId} {z : Value} (h : zeroO P t = some z) {K : Value → Hp → Prop} (hK : K z H) : sem P F (zeroValue t) H K :=
  sem_of_semq' ((semq_zero h).2 rfl) hK

theorem sem_newRow {t : TypeId} {cs : Array Value} {K : Addr → Hp → Prop} (h : ∀ b, (∀ e ∈ H, e.1 < b) → F b = none → K ⟨b, 0, none⟩ ((b, .cells cs t) :: H)) : sem P F (newRow t cs) H K := by
  unfold newRow newObj
  rw [sem_bind]
  exact fun b h1 h2 => h b h1 h2

theorem sem_alloc {o : Oper} {t : TypeId} {z : Value} (hop : o.op = .alloc t) (hz : zeroO P t = some z) {K : Next → Hp → Prop}
    (h : ∀ b, (∀ e ∈ H, e.1 < b) → F b = none → K (.value (.pointer (some ⟨b, 0, none⟩))) ((b, .cells z.cells t) :: H)) : sem P F (execOp a.eval o) H K := by
  unfold execOp
  rw [hop]
  show sem P F (Instr.alloc t true (.tuple #[]) >>= fun x => pure (Next.value x)) H K
  rw [sem_bind]
  unfold Instr.alloc
  rw [sem_bind]
  refine sem_zero hz ?_
  show sem P F (newVar t z >>= fun x => pure (Value.pointer (some x))) H _
  rw [sem_bind]
  unfold newVar
  exact sem_newRow fun b h1 h2 => h b h1 h2

theorem upd_new {H : Hp} {b : Nat} {o : Obj} (h : ∀ e ∈ H, e.1 < b) : upd H b o = H := by
  induction H with
  | nil => rfl
  | cons x r ih =>
    obtain ⟨b', o'⟩ := x
    have : b' ≠ b := by have := h (b', o') (by simp); simp at this; omega
    simp only [upd, this, if_false]
    rw [ih fun e he => h e (by simp [he])]

/-- The cells of a string's bytes. -/
def byteCells (l : List UInt8) : List Value := l.map fun c => .int .u8 c.toNat

theorem sem_sbytes {o : Oper} {s d e : TypeId} {x : Operand} {vs : ByteArray} (hop : o.op = .convert s d x) (hs : P.underlying s = some .string) (hd : P.underlying d = some (.slice e)) (he : P.underlying e = some (.int .u8)) (hx : a.eval x = .string vs) {K : Next → Hp → Prop}
    (h : ∀ k b, (∀ e ∈ H, e.1 < b) → F b = none → K (.value (.slice (some ⟨b, 0, none⟩) vs.data.toList.length (vs.data.toList.length + k)))
      ((b, .cells (byteCells vs.data.toList ++ List.replicate k (Value.int .u8 0)).toArray e (vs.data.toList.length + k, vs.data.toList.length + k + 1)) :: H)) : sem P F (execOp a.eval o) H K := by
  have hex : execOp a.eval o = (do let z ← convert s d (a.eval x); pure (Next.value z)) := by unfold execOp; rw [hop]
  have hsz : vs.data.toList.length = vs.size := Array.length_toList
  rw [hex, sem_bind, hx]
  unfold convert
  rw [sem_bind]
  refine sem_of_semq' ((semq_underlying hs).2 rfl) ?_
  rw [sem_bind]
  refine sem_of_semq' ((semq_underlying hd).2 rfl) ?_
  simp only
  rw [sem_bind]
  refine sem_of_semq' ((semq_underlying he).2 rfl) ?_
  simp only
  unfold Conv.stringToBytes choose
  rw [sem_bind]
  simp only [sem, Question.forced, Bool.false_eq_true, if_false]
  intro t
  simp only [Question.cut]
  generalize t % (2 ^ 63 - vs.size) = k
  rw [sem_bind]
  refine sem_newRow fun b h1 h2 => ?_
  rw [sem_bind]
  have hcells : ((vs.data.map fun b => Value.int .u8 b.toNat) ++ Array.replicate (vs.size + k - vs.size) (Value.int .u8 0)) = (byteCells vs.data.toList ++ List.replicate k (Value.int .u8 0)).toArray := by
    rw [Nat.add_sub_cancel_left]
    apply Array.ext'
    simp [byteCells]
  rw [hcells]
  have hF : rdObj F ((b, Obj.cells (byteCells vs.data.toList ++ List.replicate k (Value.int .u8 0)).toArray e) :: H) b = some (.cells (byteCells vs.data.toList ++ List.replicate k (Value.int .u8 0)).toArray e) := by
    simp [rdObj, h2, lk]
  unfold markStringish shape
  rw [sem_bind]
  simp only [sem, hF, shapeOf]
  unfold freeze
  simp only [sem, frH, h2, lk, if_true]
  have hn : (byteCells vs.data.toList ++ List.replicate k (Value.int .u8 0)).toArray.size = vs.data.toList.length + k := by simp [byteCells]
  rw [hn]
  simp only [Nat.one_ne_zero, if_false, beq_self_eq_true, if_true, upd, upd_new h1]
  have := h k b h1 h2
  rw [hsz] at this ⊢
  exact this

theorem sem_box {o : Oper} {t : TypeId} {x : Operand} {vx : Value} (hop : o.op = .box t x) (hx : a.eval x = vx) {K : Next → Hp → Prop}
    (h : ∀ b, (∀ e ∈ H, e.1 < b) → F b = none → K (.value (.pointer (some ⟨b, 0, none⟩))) ((b, .cells vx.cells t) :: H)) : sem P F (execOp a.eval o) H K := by
  unfold execOp
  rw [hop]
  show sem P F (Instr.box t (a.eval x) >>= fun x => pure (Next.value x)) H K
  rw [sem_bind, hx]
  unfold Instr.box
  rw [sem_bind]
  unfold newVar
  exact sem_newRow fun b h1 h2 => h b h1 h2

/-- The heap behind a store of whole cells. -/
def stCells (F : Base) (H : Hp) (b off : Nat) (l : List Value) : Option Hp := match F b, lk H b with
  | none, some (.cells c e fz) => if (fz.2 ≤ fz.1 && l.all oneCell && !l.isEmpty && decide (off + l.length ≤ c.size)) = true then some (upd H b (.cells (c.toList.take off ++ l ++ c.toList.drop (off + l.length)).toArray e fz)) else none
  | _, _ => none

theorem lk_upd {H : Hp} {b : Nat} {o : Obj} (h : lk H b ≠ none) : lk (upd H b o) b = some o := by
  induction H with
  | nil => exact absurd rfl h
  | cons x r ih =>
    obtain ⟨b', o'⟩ := x
    simp only [upd]
    split
    · rename_i e; simp [lk, e]
    · rename_i e
      simp only [lk, e, if_false] at h ⊢
      exact ih h

theorem upd_upd (H : Hp) (b : Nat) (o o' : Obj) : upd (upd H b o) b o' = upd H b o' := by
  induction H with
  | nil => rfl
  | cons x r ih =>
    obtain ⟨b', o2⟩ := x
    simp only [upd]
    split
    · rename_i e; simp [upd, e, ih]
    · rename_i e; simp [upd, e, ih]

theorem sem_storeCells {b off : Nat} {e : TypeId} {fz : Nat × Nat} (hF : F b = none) (hfz : fz.2 ≤ fz.1) : ∀ (l : List Value) (i : Nat) (c : List Value) (H : Hp) (K : Unit → Hp → Prop), l ≠ [] → lk H b = some (.cells c.toArray e fz) →
    (∀ x ∈ l, oneCell x = true) → off + i + l.length ≤ c.length → K () (upd H b (.cells (c.take (off + i) ++ l ++ c.drop (off + i + l.length)).toArray e fz)) → sem P F (storeCells ⟨b, off, none⟩ l i) H K
  | [], _, _, _, _, hne, _, _, _, _ => (hne rfl).elim
  | x :: l, i, c, H, K, _, hlk, hone, hle, hK => by
    simp only [List.length_cons] at hle
    have hlt : off + i < c.length := by omega
    unfold storeCells store
    rw [sem_bind, add_eq]
    have hst : stH F H ⟨b, off + i, none⟩ x = some (upd H b (.cells (c.toArray.setIfInBounds (off + i) x) e fz)) := by
      unfold stH
      simp only [hone x (by simp), if_true, hF, hlk, Option.isSome_none, Bool.false_eq_true, if_false, List.size_toArray, hlt]
      rw [if_neg (by simp; omega)]
    simp only [sem, hst]
    have eset : (c.toArray.setIfInBounds (off + i) x) = (c.set (off + i) x).toArray := by simp
    rw [eset]
    have etake : (c.set (off + i) x).take (off + (i + 1)) = c.take (off + i) ++ [x] := by
      rw [List.take_set, show off + (i + 1) = (off + i) + 1 from by omega, List.take_succ_eq_append_getElem hlt, List.set_append_right _ _ (by simp; omega)]
      simp [Nat.min_eq_left (Nat.le_of_lt hlt)]
    cases l with
    | nil =>
      unfold storeCells
      show K () _
      have : (c.set (off + i) x) = c.take (off + i) ++ [x] ++ c.drop (off + i + 1) := by
        have h1 := List.take_append_drop (off + (i + 1)) (c.set (off + i) x)
        rw [etake, List.drop_set, if_pos (by omega)] at h1
        rw [← h1]
        simp [Nat.add_assoc]
      rw [this]
      exact hK
    | cons y l =>
      refine sem_storeCells (e := e) hF hfz (y :: l) (i + 1) (c.set (off + i) x) _ K (by simp) ?_ (fun z hz => hone z (by simp at hz ⊢; exact .inr hz)) (by simp at hle ⊢; omega) ?_
      · exact lk_upd (by rw [hlk]; simp)
      · rw [upd_upd, etake, List.drop_set, if_pos (by omega)]
        have e1 : off + (i + 1) + (y :: l).length = off + i + (x :: y :: l).length := by simp; omega
        rw [e1]
        simpa using hK

theorem sem_store {o : Oper} {t : TypeId} {x y : Operand} {n : Nat} {b off : Nat} {vy : Value} {H' : Hp} (hop : o.op = .store t x y) (hn : szO P t = some n) (hx : a.eval x = .pointer (some ⟨b, off, none⟩)) (hy : a.eval y = vy)
    (hs : vy.cells.size = n) (hst : stCells F H b off vy.cells.toList = some H') {K : Next → Hp → Prop} (h : K .skip H') : sem P F (execOp a.eval o) H K := by
  unfold execOp
  rw [hop]
  show sem P F (Instr.storeAt t (a.eval x) (a.eval y) >>= fun _ => pure Next.skip) H K
  rw [sem_bind, hx, hy]
  unfold Instr.storeAt Instr.sureAddr
  rw [sem_bind]
  show sem P F (storeVar t ⟨b, off, none⟩ vy) H _
  unfold storeVar
  rw [sem_bind]
  refine sem_of_semq' ((semq_sizeOf hn).2 rfl) ?_
  rw [if_neg (by simp [hs])]
  unfold stCells at hst
  split at hst
  · rename_i c e fz hF hl
    split at hst
    · rename_i hc
      simp only [Bool.and_eq_true, decide_eq_true_eq, List.all_eq_true, Bool.not_eq_true', List.isEmpty_eq_false_iff] at hc
      simp only [Option.some.injEq] at hst
      subst hst
      have e4 : c = c.toList.toArray := by simp
      rw [e4] at hl
      refine sem_storeCells hF hc.1.1.1 _ 0 c.toList H _ hc.1.2 hl hc.1.1.2 (by simpa using hc.2) ?_
      exact h
    · cases hst
  · cases hst

theorem sem_bslice (hr : Rd a r) {o : Oper} {t e : TypeId} {len n : Nat} {ps : Array (Nat × Operand)} {z : Value} {l : List (Nat × Nat × X)} {ob : Prop} {out : List Value} (hop : o.op = .buildSlice t len ps)
    (hu : P.underlying t = some (.slice e)) (hn : szO P e = some n) (hz : zeroO P e = some z) (h0 : n ≠ 0) (h1 : len ≠ 0) (h2 : len * n ≤ 1000) (hps : partsO (fun i => some (i * n, n)) ps.toList = some l)
    (hf : fillL r ((List.range (len * n)).map (fun i => z.cells[i % z.cells.size]!)) l = some (ob, out)) (hob : ob) {K : Next → Hp → Prop}
    (h : ∀ b, (∀ e ∈ H, e.1 < b) → F b = none → K (.value (.slice (some ⟨b, 0, none⟩) len len)) ((b, .cells out.toArray e) :: H)) : sem P F (execOp a.eval o) H K := by
  have hfill := fill_ok hr hps hf hob
  have he : execOp a.eval o = (do let x ← Instr.buildSlice t len (ps.map fun (i, x) => (i, a.eval x)); pure (Next.value x)) := by unfold execOp; rw [hop]
  rw [he]
  have e1 : (ps.map fun (i, x) => (i, a.eval x)).toList = ps.toList.map fun q => (q.1, a.eval q.2) := by simp
  rw [sem_bind]
  unfold Instr.buildSlice
  rw [sem_bind]
  refine sem_of_semq' ((semq_underlying hu).2 rfl) ?_
  simp only
  rw [sem_bind]
  refine sem_of_semq' ((semq_sizeOf hn).2 rfl) ?_
  have hlt : ¬ len * n > 2 ^ 24 := by have : (2 : Nat) ^ 24 = 16777216 := by decide
                                      omega
  have hne : ¬ len * n = 0 := Nat.mul_ne_zero h1 h0
  simp only [hlt, hne, if_false]
  rw [sem_bind]
  refine sem_zero hz ?_
  have e5 : (Array.range (len * n)).map (z.cells[· % z.cells.size]!) = ((List.range (len * n)).map (fun i => z.cells[i % z.cells.size]!)).toArray := by
    apply Array.ext'; simp
  simp only [pure_bind, e5, e1, hfill]
  rw [sem_bind]
  exact sem_newRow fun b h1 h2 => h b h1 h2
end
end Go.Eng
