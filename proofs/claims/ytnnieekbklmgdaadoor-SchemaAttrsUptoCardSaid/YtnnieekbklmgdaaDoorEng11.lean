/- The engine, part 11: code, loops, whole functions. -/
import Derived.Test.YtnnieekbklmgdaaDoorEng10
import Derived.LoopN
namespace Go.Eng
open Go

inductive SC
  | skip
  | reg (l : List SO)
  | tree (t : RT)
  | seq (a b : SC)
  | cond (c : X) (a b : SC)
  | block (id : Nat) (b : SC)
  | loop (b : SC)
  | exit (id : Nat)
  | ret

/-- What was said of the calls of a region. -/
def exOf (ov : List Nat) (id i : Nat) : Nat := if ov.contains (id * 10000 + i * 10 + 1) then 1 else if ov.contains (id * 10000 + i * 10 + 2) then 2 else 0
def lowC (P : Program) (N : Nat) (ov : List Nat) : Code → Option SC
  | .skip => some .skip
  | .region id ops draw => match lowL P N ops draw (exOf ov id) 0 ops.toList with
    | some sl => if !draw || lexOk (ops.toList.zip (sl.map (·.k))) then some (.reg sl) else
        if Region.noSelect ops then (rtOf .any ops sl ops.size (Array.replicate ops.size false)).map .tree else none
    | none => none
  | .seq a b => match lowC P N ov a, lowC P N ov b with
    | some x, some y => some (.seq x y)
    | _, _ => none
  | .cond c a b => match lowC P N ov a, lowC P N ov b with
    | some x, some y => some (.cond (X.of c) x y)
    | _, _ => none
  | .block id b => (lowC P N ov b).map (.block id)
  | .loop b => (lowC P N ov b).map .loop
  | .exit id => some (.exit id)
  | .ret => some .ret
  | _ => none

inductive Ex
  | n
  | x (id : Nat)
  | r

def Le : Fr → Fr → Prop
  | [], _ => True
  | (s, some v) :: r, U => lkU U s = some v ∧ Le r U
  | (_, none) :: r, U => Le r U
def HLe : Hp → Hp → Prop
  | [], _ => True
  | (b, o) :: r, H => lk H b = some o ∧ HLe r H

/-- A loop: a ghost, what holds of it, the frame and the heap that it tells, a number that goes down. -/
def LoopI (body : Fr → Hp → (Ex → Fr → Hp → Prop) → Prop) (U : Fr) (H : Hp) (Q : Ex → Fr → Hp → Prop) : Prop :=
  ∃ (α : Type) (I : α → Prop) (fr : α → Fr) (hp : α → Hp) (μ : α → Nat), (∃ x, I x ∧ Le (fr x) U ∧ HLe (hp x) H) ∧
    ∀ x, I x → body (fr x) (hp x) (fun e U' H' => match e with
      | .n => ∃ y, I y ∧ μ y < μ x ∧ Le (fr y) U' ∧ HLe (hp y) H'
      | e => Q e U' H')

/-- So many rounds, and no more. -/
def LoopR (body : Fr → Hp → (Ex → Fr → Hp → Prop) → Prop) (Q : Ex → Fr → Hp → Prop) : Nat → Fr → Hp → Prop
  | 0, _, _ => False
  | n + 1, U, H => body U H (fun e U' H' => match e with
      | .n => LoopR body Q n U' H'
      | e => Q e U' H')
def LoopG (body : Fr → Hp → (Ex → Fr → Hp → Prop) → Prop) (U : Fr) (H : Hp) (Q : Ex → Fr → Hp → Prop) : Prop := LoopI body U H Q ∨ ∃ n, LoopR body Q n U H

/-- A region of more orders than one: what holds behind it may be told anew, of less. -/
def TreeG (walk : (Fr → Hp → Prop) → Prop) (Q : Fr → Hp → Prop) : Prop :=
  ∃ K : Fr → Hp → Prop, walk K ∧ ∀ U H, K U H → Q U H ∨ ∃ fr hp, Le fr U ∧ HLe hp H ∧ Q fr hp
def svc (P : Program) (X₀ : List Nat) (F : Base) (w0 : World) (N : Nat) : SC → Fr → Hp → (Ex → Fr → Hp → Prop) → Prop
  | .skip, U, H, Q => Q .n U H
  | .reg l, U, H, Q => svL P X₀ F w0 N (fun U H => Q .n U H) l U [] H
  | .tree t, U, H, Q => TreeG (fun K => svT P X₀ F w0 N K t U [] H) (fun U H => Q .n U H)
  | .seq a b, U, H, Q => svc P X₀ F w0 N a U H (fun e U H => match e with
      | .n => svc P X₀ F w0 N b U H Q
      | e => Q e U H)
  | .cond c a b, U, H, Q => match rd U [] [] c with
    | some (.bool p) => (p = true → svc P X₀ F w0 N a U H Q) ∧ (p = false → svc P X₀ F w0 N b U H Q)
    | _ => False
  | .block id b, U, H, Q => svc P X₀ F w0 N b U H (fun e U H => match e with
      | .x id' => if id' = id then Q .n U H else Q (.x id') U H
      | e => Q e U H)
  | .loop b, U, H, Q => LoopG (svc P X₀ F w0 N b) U H Q
  | .exit id, U, H, Q => Q (.x id) U H
  | .ret, U, H, Q => Q .r U H

def toE : Ex → Exit
  | .n => .normal
  | .x id => .exit id
  | .r => .ret

section
variable {P : Program} {X₀ : List Nat} {F : Base} {w0 : World} {N : Nat} {ov : List Nat}

theorem Le.lk {fr U : Fr} (h : Le fr U) {s : Nat} {v : Value} (hl : lkU fr s = some v) : lkU U s = some v := by
  induction fr with
  | nil => cases hl
  | cons x r ih =>
    obtain ⟨s', v'⟩ := x
    simp only [lkU] at hl
    cases v' with
    | none =>
      simp only [Le] at h
      split at hl
      · cases hl
      · exact ih h hl
    | some v' =>
      simp only [Le] at h
      split at hl
      · rename_i e; subst e; simp only [Option.some.injEq] at hl; subst hl; exact h.1
      · exact ih h.2 hl

theorem FOk.le {fr U : Fr} {a : Act} (hf : FOk N U [] a) (h : Le fr U) : FOk N fr [] a :=
  ⟨hf.defers, hf.size, fun s v hl => hf.u s v (h.lk hl), fun _ _ _ hl => by cases hl⟩

theorem HLe.mem {H' H : Hp} (h : HLe H' H) : ∀ e ∈ H', e ∈ H := by
  induction H' with
  | nil => intro e he; cases he
  | cons x r ih =>
    obtain ⟨b, o⟩ := x
    intro e he
    rcases List.mem_cons.1 he with he | he
    · subst he; exact lk_mem h.1
    · exact ih h.2 e he

/-- What stands behind a piece of code. -/
def QOk (X₀ : List Nat) (F : Base) (w0 : World) (N : Nat) (Q : Ex → Fr → Hp → Prop) (Q' : Exit → Act → World → Prop) : Prop :=
  ∀ e U H a w, FOk N U [] a → Sat X₀ F w0 H w → Q e U H → Q' (toE e) a w

theorem zip_fst {α β : Type} : ∀ (l : List α) (m : List β), m.length = l.length → (l.zip m).map (·.1) = l
  | [], _, _ => rfl
  | x :: l, [], h => by simp at h
  | x :: l, y :: m, h => by simp only [List.zip_cons_cons, List.map_cons]; rw [zip_fst l m (by simpa using h)]

theorem svc_sound (hm : P.follows .mixedOrders = true) : ∀ (c : Code) (sc : SC) (U : Fr) (H : Hp) (Q : Ex → Fr → Hp → Prop) (Q' : Exit → Act → World → Prop) (a : Act) (w : World),
    lowC P N ov c = some sc → QOk X₀ F w0 N Q Q' → FOk N U [] a → Sat X₀ F w0 H w → svc P X₀ F w0 N sc U H Q → c.wp P Q' a w := by
  intro c
  induction c with
  | skip =>
    intro sc U H Q Q' a w hl hQ hf hs h
    simp only [lowC, Option.some.injEq] at hl
    subst hl
    exact wp_skip (hQ .n _ _ _ _ hf hs h)
  | region id ops draw =>
    intro sc U H Q Q' a w hl hQ hf hs h
    simp only [lowC] at hl
    split at hl
    case h_2 => cases hl
    rename_i sl hsl
    split at hl
    · rename_i hlex
      simp only [Option.some.injEq] at hl
      subst hl
      simp only [svc] at h
      have e1 : (ops.toList.zip (sl.map (·.k))).map (·.1) = ops.toList := zip_fst _ _ (by simp [lowL_len hsl])
      have e2 : ((ops.toList.zip (sl.map (·.k))).map (·.1)).toArray = ops := by rw [e1]
      have := wp_region_rvc (P := P) (X := X₀) (F := F) (w0 := w0) (id := id) (draw := draw) (l := ops.toList.zip (sl.map (·.k))) (a := a) (H := H) (w := w) (Q := Q')
        (K := fun a H => ∃ U, FOk N U [] a ∧ Q .n U H) (fun a H w hs ⟨U, hf, hq⟩ => hQ .n U H a w hf hs hq) hm (fun hd => by subst hd; simpa using hlex)
        (by rw [e2]; exact svL_sound hsl hf h) hs
      rw [e2] at this
      exact this
    · rename_i hlex
      have hd : draw = true := by cases draw <;> simp_all
      subst hd
      split at hl
      case isFalse => cases hl
      rename_i hsel
      obtain ⟨t, ht, rfl⟩ := Option.map_eq_some_iff.1 hl
      simp only [svc] at h
      refine wp_region_any hm ?_
      obtain ⟨K, h, hK⟩ := h
      have := svT_sound (K := K) hsel (fun j o s hj hs => by
        have := lowL_get hsl j o s (by simpa using hj) hs
        rwa [Nat.zero_add] at this) (Closed.none _) ht hf h
      have h2 := wpAny_of_anyC (Q := Q') (fun a H w hs ⟨U, hf, hq⟩ => by
        rcases hK U H hq with hq | ⟨fr, hp, h1, h2, hq⟩
        · exact hQ .n U H a w hf hs hq
        · exact hQ .n fr hp a w (hf.le h1) (hs.less h2.mem) hq) _ _ _ _ _ this (hs.drew (w.drawn + 1))
      simpa using h2
  | seq x y ihx ihy =>
    intro sc U H Q Q' a w hl hQ hf hs h
    simp only [lowC] at hl
    split at hl
    case h_2 => cases hl
    rename_i sx sy hx hy
    simp only [Option.some.injEq] at hl
    subst hl
    simp only [svc] at h
    refine wp_seq (ihx _ _ _ _ _ a w hx ?_ hf hs h)
    intro e U' H' a' w' hf' hs' hq
    cases e with
    | n => exact ihy _ _ _ _ _ a' w' hy hQ hf' hs' hq
    | x id => exact hQ (.x id) _ _ _ _ hf' hs' hq
    | r => exact hQ .r _ _ _ _ hf' hs' hq
  | cond cc x y ihx ihy =>
    intro sc U H Q Q' a w hl hQ hf hs h
    simp only [lowC] at hl
    split at hl
    case h_2 => cases hl
    rename_i sx sy hx hy
    simp only [Option.some.injEq] at hl
    subst hl
    simp only [svc] at h
    split at h
    case h_2 => exact h.elim
    rename_i p hp
    have e1 := hf.rd (G := []) (fun l hl => by cases hl) hp
    rw [xv_of] at e1
    refine wp_cond_split e1 (fun ht => ihx _ _ _ _ _ a w hx hQ hf hs (h.1 ht)) (fun ht => ihy _ _ _ _ _ a w hy hQ hf hs (h.2 ht))
  | block id b ih =>
    intro sc U H Q Q' a w hl hQ hf hs h
    simp only [lowC, Option.map_eq_some_iff] at hl
    obtain ⟨sb, hb, rfl⟩ := hl
    simp only [svc] at h
    refine wp_block (ih _ _ _ _ _ a w hb ?_ hf hs h)
    intro e U' H' a' w' hf' hs' hq
    cases e with
    | n => exact hQ .n _ _ _ _ hf' hs' hq
    | x id' =>
      show Exit.inBlock id Q' (.exit id') a' w'
      simp only at hq
      by_cases hid : id' = id
      · simp only [Exit.inBlock, hid, if_true] at hq ⊢; exact hQ .n _ _ _ _ hf' hs' hq
      · simp only [Exit.inBlock, hid, if_false] at hq ⊢; exact hQ (.x id') _ _ _ _ hf' hs' hq
    | r => exact hQ .r _ _ _ _ hf' hs' hq
  | loop b ih =>
    intro sc U H Q Q' a w hl hQ hf hs h
    simp only [lowC, Option.map_eq_some_iff] at hl
    obtain ⟨sb, hb, rfl⟩ := hl
    simp only [svc] at h
    rcases h with h | ⟨n, h⟩
    case inr =>
      have key : ∀ n U H a w, FOk N U [] a → Sat X₀ F w0 H w → LoopR (svc P X₀ F w0 N sb) Q n U H → Code.rounds P b Q' n a w := by
        intro n
        induction n with
        | zero => intro U H a w _ _ h; exact h.elim
        | succ n ihn =>
          intro U H a w hf hs h
          simp only [LoopR] at h
          rw [rounds_succ]
          refine ih _ _ _ _ _ a w hb ?_ hf hs h
          intro e U' H' a' w' hf' hs' hq
          cases e with
          | n => exact ihn _ _ _ _ hf' hs' hq
          | x id => exact hQ (.x id) _ _ _ _ hf' hs' hq
          | r => exact hQ .r _ _ _ _ hf' hs' hq
      exact wp_loop_rounds n (key n U H a w hf hs h)
    obtain ⟨α, I, fr, hp, μ, ⟨x0, hI0, hU0, hH0⟩, hround⟩ := h
    refine wp_loop_ghost (fun n a w => ∃ x, I x ∧ μ x = n ∧ FOk N (fr x) [] a ∧ Sat X₀ F w0 (hp x) w) (μ x0) ⟨x0, hI0, rfl, hf.le hU0, hs.less hH0.mem⟩ ?_
    rintro n a w ⟨x, hI, rfl, hf, hs⟩
    refine ih _ _ _ _ _ a w hb ?_ hf hs (hround x hI)
    intro e U' H' a' w' hf' hs' hq
    cases e with
    | n =>
      obtain ⟨y, hy, hlt, hU, hH⟩ := hq
      exact ⟨μ y, hlt, y, hy, rfl, hf'.le hU, hs'.less hH.mem⟩
    | x id => exact hQ (.x id) _ _ _ _ hf' hs' hq
    | r => exact hQ .r _ _ _ _ hf' hs' hq
  | exit id =>
    intro sc U H Q Q' a w hl hQ hf hs h
    simp only [lowC, Option.some.injEq] at hl
    subst hl
    exact wp_exit (hQ (.x id) _ _ _ _ hf hs h)
  | ret =>
    intro sc U H Q Q' a w hl hQ hf hs h
    simp only [lowC, Option.some.injEq] at hl
    subst hl
    exact wp_ret (hQ .r _ _ _ _ hf hs h)
  | _ => intro sc U H Q Q' a w hl; cases hl

/-! ### Whole functions -/
inductive RV
  | t (n : Nat)
  | cell (a n : Nat) (agg : Bool)

def lowR (P : Program) : List ResultVar → Option (List RV)
  | [] => some []
  | .tmp t :: r => (lowR P r).map (.t t :: ·)
  | .cell a t :: r => match szO P t, aggB P t, lowR P r with
    | some n, some g, some l => some (.cell a n g :: l)
    | _, _, _ => none

def resL (F : Base) (H : Hp) (U : Fr) : List RV → Option (List Value)
  | [] => some []
  | .t n :: r => match lkU U n, resL F H U r with
    | some v, some l => some (v :: l)
    | _, _ => none
  | .cell a n g :: r => match lkU U a, resL F H U r with
    | some (.pointer (some ⟨b, off, none⟩)), some l => match cellsAt F H b off n with
      | some cs => if g then some (.agg cs.toArray :: l) else match cs with
        | [v] => some (v :: l)
        | _ => none
      | none => none
    | _, _ => none

def resV : List Value → Value
  | [v] => v
  | l => .tuple l.toArray

theorem semq_run {α : Type} {H : Hp} {w : World} (hs : Sat X₀ F w0 H w) (s : Sem α) : ∀ (K : α → Prop), semq P F H s K → ∃ x, s.run P w = .ok x w ∧ K x := by
  induction s with
  | pure a => exact fun K h => ⟨a, rfl, h⟩
  | load m a k ih =>
    intro K h
    simp only [semq] at h
    split at h
    · rename_i v hv
      simp only [Sem.run, hs.cell hv]
      exact ih _ _ h
    · exact h.elim
  | shape r k ih =>
    intro K h
    simp only [semq] at h
    split at h
    · rename_i o ho
      have hb := hs.rd ho
      have : w.shape? r = shapeOf (some o) := by simp only [World.shape?, shapeOf, hb]; cases o <;> rfl
      simp only [Sem.run, this]
      exact ih _ _ h
    · exact h.elim
  | frozen a k ih =>
    intro K h
    simp only [semq] at h
    split at h
    · rename_i o ho
      simp only [Sem.run, hs.frozen ho a rfl]
      exact ih _ _ h
    · exact h.elim
  | getObj r k ih =>
    intro K h
    simp only [semq] at h
    split at h
    · exact h.elim
    · rename_i o hno ho
      have hb := hs.rd ho
      have hrun : (Sem.getObj r k).run P w = (k o).run P w := by
        simp only [Sem.run, hb]
      rw [hrun]
      exact ih _ _ h
    · exact h.elim
  | choose q k ih =>
    intro K h
    simp only [semq] at h
    split at h
    · rename_i hq; simp only [Sem.run, hq, if_true]; exact ih _ _ h
    · exact h.elim
  | program k ih => intro K h; simp only [semq] at h; exact ih _ _ h
  | mark m k ih => intro K h; simp only [semq] at h; exact ih _ h
  | _ => exact fun K h => h.elim

theorem resL_ok {H : Hp} {U : Fr} {a : Act} (hf : FOk N U [] a) : ∀ {rs : List ResultVar} {rv : List RV} {l : List Value} {K : List Value → Prop}, lowR P rs = some rv → resL F H U rv = some l → K l →
    semq P F H (rs.mapM fun
      | .tmp t => pure (a.tmps.getD t undef)
      | .cell x t => do loadVar t (← asAddr (a.tmps.getD x undef))) K
  | [], rv, l, K, hl, hr, hK => by
    simp only [lowR, Option.some.injEq] at hl
    subst hl
    simp only [resL, Option.some.injEq] at hr
    subst hr
    exact hK
  | .tmp t :: rs, rv, l, K, hl, hr, hK => by
    simp only [lowR, Option.map_eq_some_iff] at hl
    obtain ⟨rv', hl', rfl⟩ := hl
    simp only [resL] at hr
    split at hr
    case h_2 => cases hr
    rename_i v l' hv hr'
    simp only [Option.some.injEq] at hr
    subst hr
    simp only [List.mapM_cons, semq_bind, semq_pure, hf.u _ _ hv]
    exact resL_ok hf hl' hr' hK
  | .cell x t :: rs, rv, l, K, hl, hr, hK => by
    simp only [lowR] at hl
    split at hl
    case h_2 => cases hl
    rename_i n g rv' hn hg hl'
    simp only [Option.some.injEq] at hl
    subst hl
    simp only [resL] at hr
    split at hr
    case h_2 => cases hr
    rename_i b off l' hv hr'
    split at hr
    case h_2 => cases hr
    rename_i cs hcs
    simp only [List.mapM_cons, semq_bind, hf.u _ _ hv]
    unfold asAddr loadVar
    simp only [semq_pure, semq_bind, semq_isAgg hg]
    cases g with
    | true =>
      simp only [if_true, Option.some.injEq] at hr ⊢
      subst hr
      simp only [semq_bind, semq_sizeOf hn]
      refine semq_loadCells hcs ?_
      exact resL_ok hf hl' hr' hK
    | false =>
      simp only [Bool.false_eq_true, if_false] at hr ⊢
      obtain ⟨v, rfl⟩ : ∃ v, cs = [v] := by
        match cs, hr with
        | [v], _ => exact ⟨v, rfl⟩
        | [], hr => cases hr
        | _ :: _ :: _, hr => cases hr
      simp only [Option.some.injEq] at hr
      subst hr
      unfold cellsAt at hcs
      split at hcs
      · rename_i c e f ho
        split at hcs
        · rename_i hle
          simp only [Option.some.injEq] at hcs
          have hn1 : n = 1 := by
            have := congrArg List.length hcs
            simp at this
            omega
          subst hn1
          refine semq_load (v := c[off]) (by rw [cellOf_at ho]; simp) ?_
          have : v = c[off] := by
            rw [List.drop_eq_getElem_cons (by simp; omega)] at hcs
            simpa using hcs.symm
          rw [← this]
          exact resL_ok hf hl' hr' hK
        · cases hcs
      · cases hcs

def numb : Nat → List Value → Fr
  | _, [] => []
  | i, v :: r => (i, some v) :: numb (i + 1) r

theorem lkU_numb : ∀ (l : List Value) (i s : Nat) (v : Value), lkU (numb i l) s = some v → i ≤ s ∧ l[s - i]? = some v
  | [], i, s, v, h => by cases h
  | x :: l, i, s, v, h => by
    simp only [numb, lkU] at h
    split at h
    · rename_i e; subst e; simp only [Option.some.injEq] at h; subst h; simp
    · rename_i e
      obtain ⟨h1, h2⟩ := lkU_numb l (i + 1) s v h
      refine ⟨by omega, ?_⟩
      rw [show s - i = (s - (i + 1)) + 1 from by omega, List.getElem?_cons_succ]
      exact h2

structure Fun where
  n : Nat
  c : SC
  rv : List RV

def lowF (P : Program) (ov : List Nat) (fn : Func) : Option Fun := match fn.body with
  | some c => match lowC P fn.ntmps ov c, lowR P fn.results.toList with
    | some sc, some rv => some ⟨fn.ntmps, sc, rv⟩
    | _, _ => none
  | none => none

/-- Behind a whole function. -/
def fin (F : Base) (rv : List RV) (K : Value → Hp → Prop) : Ex → Fr → Hp → Prop
  | .x _, _, _ => False
  | _, U, H => match resL F H U rv with
    | some l => K (resV l) H
    | none => False

theorem callG_of_svc {f : Nat} {fn : Func} {fu : Fun} {args : List Value} {H : Hp} {K : Value → Hp → Prop} (hm : P.follows .mixedOrders = true) (hf : P.funcs[f]? = some fn) (hl : lowF P ov fn = some fu) (hn : args.length ≤ fu.n)
    (h : svc P X₀ F w0 fu.n fu.c (numb 0 args) H (fin F fu.rv K)) : CallG P X₀ F w0 f args.toArray H K := by
  intro w hs
  unfold lowF at hl
  split at hl
  case h_2 => cases hl
  rename_i c hb
  split at hl
  case h_2 => cases hl
  rename_i sc rv hc hrv
  simp only [Option.some.injEq] at hl
  subst hl
  simp only at hn h
  refine calls_of_wp hf hb (svc_sound hm c sc _ H _ _ _ w hc ?_ ?_ hs h)
  · have key : ∀ U H' a' w', FOk fn.ntmps U [] a' → Sat X₀ F w0 H' w' → (match resL F H' U rv with
        | some l => K (resV l) H'
        | none => False) → a'.defers = [] ∧ ∃ v, (results fn a'.tmps).run P w' = .ok v w' ∧ (∃ v' H', Ending.returned v = .returned v' ∧ Sat X₀ F w0 H' w' ∧ K v' H') := fun U H' a' w' hf' hs' hq => by
      split at hq
      case h_2 => exact hq.elim
      rename_i l hres
      refine ⟨hf'.defers, ?_⟩
      have hq2 : semq P F H' (results fn a'.tmps) (fun v => v = resV l) := by
        unfold results
        rw [semq_bind, Array.mapM_eq_mapM_toList, map_eq_pure_bind, semq_bind]
        refine resL_ok hf' hrv hres ?_
        simp only [semq_pure]
        match l with
        | [] => rfl
        | [v] => rfl
        | _ :: _ :: _ => simp [resV]
      obtain ⟨v, hv, rfl⟩ := semq_run hs' _ _ hq2
      exact ⟨_, hv, _, H', rfl, hs', hq⟩
    intro e U H' a' w' hf' hs' hq
    cases e with
    | n => exact key _ _ _ _ hf' hs' hq
    | r => exact key _ _ _ _ hf' hs' hq
    | x id => exact hq.elim
  · refine ⟨rfl, by simp; omega, fun s v hl => ?_, fun _ _ _ hl => by cases hl⟩
    obtain ⟨_, h2⟩ := lkU_numb args 0 s v hl
    rw [Nat.sub_zero] at h2
    have hlt : s < args.length := by
      rcases Nat.lt_or_ge s args.length with h3 | h3
      · exact h3
      · rw [List.getElem?_eq_none h3] at h2; cases h2
    rw [Array.getD_eq_getD_getElem?, Array.getElem?_append_left (by simpa using hlt)]
    simp [h2]

theorem pureV_of_svc {f : Nat} {fn : Func} {fu : Fun} {args : List Value} {v : Value} (hm : P.follows .mixedOrders = true) (hf : P.funcs[f]? = some fn) (hl : lowF P ov fn = some fu) (hn : args.length ≤ fu.n)
    (h : ∀ w0, svc P [] F w0 fu.n fu.c (numb 0 args) [] (fin F fu.rv fun v' _ => v' = v)) : PureV P F f args.toArray v := by
  intro w hw
  have hs : Sat [] F w [] w := ⟨rfl, rfl, rfl, Nat.le_refl _, hw, by simp, by simp, by simp, fun _ _ _ => rfl⟩
  refine (callG_of_svc hm hf hl hn (h w) w hs).mono ?_
  rintro e w' ⟨v', H', rfl, hs', rfl⟩
  exact ⟨rfl, hs'.os, hs'.tape, hs'.output, hs'.size, fun k hk => hs'.old k hk (by simp)⟩

/-- A contract of the library's: the world as it was. -/
theorem PureV.of_same {f : Nat} {args : Array Value} {v : Value} (h : ∀ w, Calls P f args w fun e w' => e = .returned v ∧ w' = w) : PureV P F f args v :=
  fun w _ => (h w).mono fun _ _ ⟨he, hw⟩ => ⟨he, hw ▸ RowKit.Below.refl _ _⟩
theorem PureV.of_same' {f : Nat} {args : Array Value} {v : Value} (h : ∀ w, Calls P f args w fun e w' => e = .returned v ∧ w = w') : PureV P F f args v :=
  fun w _ => (h w).mono fun _ _ ⟨he, hw⟩ => ⟨he, hw ▸ RowKit.Below.refl _ _⟩
end

/-! ### Numbers -/
theorem wrap_i64 (x : Int) : IntKind.i64.wrap x = (x + 9223372036854775808) % 18446744073709551616 - 9223372036854775808 := by
  unfold IntKind.wrap
  have e1 : (2 : Int) ^ 64 = 18446744073709551616 := by decide
  have e2 : (2 : Int) ^ (64 - 1) = 9223372036854775808 := by decide
  simp only [IntKind.bits, IntKind.signed, Bool.true_and]
  split <;> rename_i h <;> simp only [ge_iff_le, decide_eq_true_eq, e1, e2] at h ⊢ <;> omega
theorem wrap_u64 (x : Int) : IntKind.u64.wrap x = x % 18446744073709551616 := by
  unfold IntKind.wrap
  simp only [IntKind.bits, IntKind.signed, Bool.false_and, Bool.false_eq_true, if_false]
  have e1 : (2 : Int) ^ 64 = 18446744073709551616 := by decide
  rw [e1]
theorem wrap_u8 (x : Int) : IntKind.u8.wrap x = x % 256 := by
  unfold IntKind.wrap
  simp only [IntKind.bits, IntKind.signed, Bool.false_and, Bool.false_eq_true, if_false]
  have e1 : (2 : Int) ^ 8 = 256 := by decide
  rw [e1]
theorem wrap_u32 (x : Int) : IntKind.u32.wrap x = x % 4294967296 := by
  unfold IntKind.wrap
  simp only [IntKind.bits, IntKind.signed, Bool.false_and, Bool.false_eq_true, if_false]
  have e1 : (2 : Int) ^ 32 = 4294967296 := by decide
  rw [e1]
theorem in_i64 (x : Int) (h : -9223372036854775808 ≤ x ∧ x ≤ 9223372036854775807) : IntKind.i64.wrap x = x := by rw [wrap_i64]; omega
theorem in_u64 (x : Int) (h : 0 ≤ x ∧ x ≤ 18446744073709551615) : IntKind.u64.wrap x = x := by rw [wrap_u64]; omega
theorem in_u8 (x : Int) (h : 0 ≤ x ∧ x ≤ 255) : IntKind.u8.wrap x = x := by rw [wrap_u8]; omega

theorem bs_len (l : List UInt8) : (bs l).data.toList.length = l.length := rfl
theorem bs_list (l : List UInt8) : (bs l).data.toList = l := rfl
theorem bs_of (s : ByteArray) : s = bs s.data.toList := rfl
end Go.Eng
