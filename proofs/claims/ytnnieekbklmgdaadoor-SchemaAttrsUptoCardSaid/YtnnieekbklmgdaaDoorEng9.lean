/- The engine, part 9: the symbolic walk of regions and of code. -/
import Derived.Test.YtnnieekbklmgdaaDoorEng8
import Derived.Deep.LoopGhost
namespace Go.Eng
open Go

def kindS (draw : Bool) (ex : Nat) (gd : Bool) : S → Kind
  | .ef .. => .e
  | .ld .. | .bstr .. | .xcall .. => .q
  | .alloc .. | .box .. | .bslice .. | .sbytes .. => if draw then .g else .e
  | .store .. | .raw _ => .e
  | .call .. | .callV .. => if ex = 1 then .e else if ex = 2 then .g else if draw || gd then .q else .e
  | _ => if draw then .p else .q

def gOf (ops : Array Oper) : Option (Nat × Bool) → Option (Option Nat)
  | none => some none
  | some (j, w) => match (ops[j]?).bind (·.dst) with
    | some d => some (some (2 * d + if w then 1 else 0))
    | none => none

def dstOk (N : Nat) : Option Nat → Bool
  | none => true
  | some d => decide (d < N)

def lowO (P : Program) (N : Nat) (ops : Array Oper) (draw : Bool) (ex : Nat) (o : Oper) : Option SO := match low P o, gOf ops o.guard with
  | some s, some g => if dstOk N o.dst then some ⟨o.dst, s, g, kindS draw ex g.isSome s⟩ else none
  | _, _ => none

def lit : X → Nat → List Nat
  | .t n, b => [2 * n + b]
  | .c _, _ => []

def pickC : S → X
  | .pick c _ _ => c
  | _ => .c undef

def skp (dst : Option Nat) (G : List Nat) (U : Fr) (C : Cf) (next : Fr → Cf → Prop) : Prop := match dst with
  | none => next U C
  | some d => cfree d C = true ∧ freeG d G = true ∧ next ((d, none) :: U) ((d, G, .bool false) :: C)

/-- What a guard that says no tells. -/
def NW (U : Fr) (C : Cf) : List Nat → Prop
  | [l] => match rd U C [] (.t (l / 2)) with
    | some (.bool p) => p = !isPar l
    | _ => True
  | _ => True

section
variable (P : Program) (X₀ : List Nat) (F : Base) (w0 : World) (N : Nat)

def cnd (U : Fr) (C : Cf) (G : List Nat) (dst : Option Nat) (H : Hp) (next : Fr → Cf → Hp → Prop) (run : (Value → Hp → Prop) → Prop) : Prop := match G with
  | [] => run (fun v H' => wr dst [] v U C (fun U C => next U C H'))
  | l :: r => (Wf U C (l :: r) (l :: r) → run (fun v H' => wr dst (l :: r) v U C (fun U C => next U C H'))) ∧ (NW U C (l :: r) → skp dst (l :: r) U C (fun U C => next U C H))

def allocP (H : Hp) (o : Obj) (k : Nat → Hp → Prop) : Prop := ∀ b, (∀ e ∈ H, e.1 ≠ b) → F b = none → k b ((b, o) :: H)

def rawK (kk : Value → Hp → Prop) : Next → Hp → Prop
  | .value v, H => kk v H
  | .skip, H => kk undef H
  | .enter f args, H => CallG P X₀ F w0 f args H kk
  | _, _ => False

def stp (o : SO) (U : Fr) (C : Cf) (H : Hp) (next : Fr → Cf → Hp → Prop) : Prop :=
  match o.op with
  | .call f args => match rds U C (chain C o.g) args with
    | some vs => (match o.k with
      | .q => ∃ v, (Wf U C (chain C o.g) (chain C o.g) → PureV P (rdObj F H) f vs.toArray v) ∧ wr o.dst (chain C o.g) v U C (fun U C => next U C H)
      | .g => cnd U C (chain C o.g) o.dst H next (fun kk => CallG P X₀ F w0 f vs.toArray H (fun v H' => Hext F H H' ∧ kk v H'))
      | _ => cnd U C (chain C o.g) o.dst H next (fun kk => CallG P X₀ F w0 f vs.toArray H kk))
    | none => False
  | .callV x args => match rd U C (chain C o.g) x, rds U C (chain C o.g) args with
    | some fv, some vs => (match o.k with
      | .q => ∃ v, (Wf U C (chain C o.g) (chain C o.g) → PureF P (rdObj F H) fv vs v) ∧ wr o.dst (chain C o.g) v U C (fun U C => next U C H)
      | .g => cnd U C (chain C o.g) o.dst H next (fun kk => CallF P X₀ F w0 fv vs H (fun v H' => Hext F H H' ∧ kk v H'))
      | _ => cnd U C (chain C o.g) o.dst H next (fun kk => CallF P X₀ F w0 fv vs H kk))
    | _, _ => False
  | .alloc T z => cnd U C (chain C o.g) o.dst H next (fun kk => allocP F H (.cells z.toArray T) fun b H' => kk (.pointer (some ⟨b, 0, none⟩)) H')
  | .box T x => match rd U C (chain C o.g) x with
    | some v => cnd U C (chain C o.g) o.dst H next (fun kk => allocP F H (.cells v.cells T) fun b H' => kk (.pointer (some ⟨b, 0, none⟩)) H')
    | none => False
  | .bslice T len z ps => match fillL (rd U C (chain C o.g)) z ps with
    | some (ob, out) => cnd U C (chain C o.g) o.dst H next (fun kk => ob ∧ allocP F H (.cells out.toArray T) fun b H' => kk (.slice (some ⟨b, 0, none⟩) len len) H')
    | none => False
  | .store n ax x => match rd U C (chain C o.g) ax, rd U C (chain C o.g) x with
    | some (.pointer (some ⟨b, off, none⟩)), some v => cnd U C (chain C o.g) o.dst H next (fun kk => v.cells.size = n ∧ match stCells F H b off v.cells.toList with
      | some H' => kk undef H'
      | none => False)
    | _, _ => False
  | .sbytes T x => match rd U C (chain C o.g) x with
    | some (.string s) => cnd U C (chain C o.g) o.dst H next (fun kk => ∀ k, allocP F H (.cells (byteCells s.data.toList ++ List.replicate k (Value.int .u8 0)).toArray T (s.data.toList.length + k, s.data.toList.length + k + 1)) fun b H' =>
        kk (.slice (some ⟨b, 0, none⟩) s.data.toList.length (s.data.toList.length + k)) H')
    | _ => False
  | .xcall f args => match rds U C (chain C o.g) args with
    | some vs => ∃ v, (Wf U C (chain C o.g) (chain C o.g) → semq P F H (callFunc f vs.toArray) (fun n => n = .value v)) ∧ wr o.dst (chain C o.g) v U C (fun U C => next U C H)
    | none => False
  | .ef e xs => match rds U C (chain C o.g) xs with
    | some vs => cnd U C (chain C o.g) o.dst H next (fun kk => efP F H e vs (shrK kk))
    | none => False
  | .raw oo => cnd U C (chain C o.g) o.dst H next (fun kk => ∀ a : Act, FOk N U C a → om a (chain C o.g) → sem P F (execOp a.eval oo) H (rawK P X₀ F w0 kk))
  | s => match qev F H (rd U C (chain C o.g)) (rd U C (lit (pickC s) 1 ++ chain C o.g)) (rd U C (lit (pickC s) 0 ++ chain C o.g)) s with
    | some (ob, v) => (Wf U C (chain C o.g) (chain C o.g) → ob) ∧ wr o.dst (chain C o.g) v U C (fun U C => next U C H)
    | none => False

def svL (K : Fr → Hp → Prop) : List SO → Fr → Cf → Hp → Prop
  | [], U, _, H => K U H
  | o :: r, U, C, H => stp P X₀ F w0 N o U C H (svL K r)
end

section
variable {P : Program} {X₀ : List Nat} {F : Base} {w0 : World} {N : Nat} {ops : Array Oper} {draw : Bool} {ex : Nat} {U : Fr} {C : Cf} {H : Hp} {a : Act} {o : Oper} {so : SO}

theorem wanted_slot {j d : Nat} {w : Bool} (hg : o.guard = some (j, w)) (hd : (ops[j]?).bind (·.dst) = some d) : Region.wanted o (yielded ops a.tmps) = true ↔ a.tmps.getD d undef = .bool w := by
  unfold Region.wanted
  rw [hg]
  unfold yielded
  simp only [hd, Option.bind_some, beq_iff_eq]
  rw [Array.getD_eq_getD_getElem?]
  cases h : a.tmps[d]? with
  | none => simp [undef]
  | some v => cases v <;> simp

theorem gOf_spec {g : Option Nat} (h : gOf ops o.guard = some g) : (o.guard = none ∧ g = none) ∨ ∃ j d w, o.guard = some (j, w) ∧ (ops[j]?).bind (·.dst) = some d ∧ g = some (2 * d + if w then 1 else 0) := by
  cases hg : o.guard with
  | none => rw [hg] at h; simp only [gOf, Option.some.injEq] at h; exact .inl ⟨rfl, h.symm⟩
  | some jw =>
    obtain ⟨j, w⟩ := jw
    rw [hg] at h
    simp only [gOf] at h
    split at h
    · rename_i d hd; simp only [Option.some.injEq] at h; exact .inr ⟨j, d, w, rfl, hd, h.symm⟩
    · cases h

theorem lit_div (d : Nat) (w : Bool) : (2 * d + if w then 1 else 0) / 2 = d := by cases w <;> simp <;> omega
theorem lit_par (d : Nat) (w : Bool) : isPar (2 * d + if w then 1 else 0) = w := by
  cases w <;> simp [isPar] <;> omega

theorem wanted_om (hf : FOk N U C a) {g : Option Nat} (h : gOf ops o.guard = some g) : Region.wanted o (yielded ops a.tmps) = true ↔ om a (chain C g) := by
  rcases gOf_spec h with ⟨h1, rfl⟩ | ⟨j, d, w, h1, h2, rfl⟩
  · simp [Region.wanted, h1, chain, om]
  · rw [wanted_slot h1 h2]
    simp only [chain, lit_div]
    constructor
    · intro hs l hl
      rcases List.mem_cons.1 hl with e | hl
      · subst e; rw [lit_div, lit_par]; exact hs
      · split at hl
        · rename_i G v hc
          rcases hf.c _ _ _ hc with ⟨ho, _⟩ | ⟨_, hu⟩
          · exact ho l hl
          · rw [hu] at hs; cases hs
        · cases hl
    · intro ho
      have := ho _ (by simp : (2 * d + if w then 1 else 0) ∈ _)
      rw [lit_div, lit_par] at this
      exact this

theorem om_append {G G' : List Nat} (h : om a G) (h' : om a G') : om a (G ++ G') := fun l hl => (List.mem_append.1 hl).elim (h l) (h' l)

theorem om_lit {x : X} {b : Bool} (h : xv a x = .bool b) : om a (lit x (if b then 1 else 0)) := by
  cases x with
  | t n => intro l hl; simp only [lit, List.mem_singleton] at hl; subst hl; rw [lit_div, lit_par]; exact h
  | c v => intro l hl; cases hl

def Kr (N : Nat) (next : Fr → Cf → Hp → Prop) (a : Act) (H : Hp) : Prop := ∃ U C, FOk N U C a ∧ next U C H

theorem FOk.put_none {v : Value} (h : FOk N U C a) : FOk N U C (a.put none v) := h

theorem wr_yes {next : Fr → Cf → Hp → Prop} {dst : Option Nat} {G : List Nat} {v : Value} {H : Hp} (hf : FOk N U C a) (hd : dstOk N dst = true) (ho : om a G) (h : wr dst G v U C (fun U C => next U C H)) : Kr N next (a.put dst v) H := by
  cases dst with
  | none => exact ⟨U, C, hf, h⟩
  | some d =>
    simp only [dstOk, decide_eq_true_eq] at hd
    obtain ⟨h1, h2⟩ := h
    cases G with
    | nil => exact ⟨_, _, hf.put_u hd h1 v, h2⟩
    | cons l r => exact ⟨_, _, hf.put_c hd h1 h2.1 (.inl ⟨ho, rfl⟩), h2.2⟩

theorem wr_no {next : Fr → Cf → Hp → Prop} {dst : Option Nat} {G : List Nat} {v : Value} {H : Hp} (hf : FOk N U C a) (hd : dstOk N dst = true) (hG : G ≠ []) (ho : ¬ om a G) (h : wr dst G v U C (fun U C => next U C H)) : Kr N next (a.put dst undef) H := by
  cases dst with
  | none => exact ⟨U, C, hf, h⟩
  | some d =>
    simp only [dstOk, decide_eq_true_eq] at hd
    obtain ⟨h1, h2⟩ := h
    cases G with
    | nil => exact (hG rfl).elim
    | cons l r => exact ⟨_, _, hf.put_c hd h1 h2.1 (.inr ⟨ho, rfl⟩), h2.2⟩

theorem skp_no {next : Fr → Cf → Hp → Prop} {dst : Option Nat} {G : List Nat} {H : Hp} (hf : FOk N U C a) (hd : dstOk N dst = true) (ho : ¬ om a G) (h : skp dst G U C (fun U C => next U C H)) : Kr N next (a.put dst undef) H := by
  cases dst with
  | none => exact ⟨U, C, hf, h⟩
  | some d =>
    simp only [dstOk, decide_eq_true_eq] at hd
    obtain ⟨h1, h2, h3⟩ := h
    exact ⟨_, _, hf.put_c hd h1 h2 (.inr ⟨ho, rfl⟩), h3⟩

/-- An operation of a kind that is run only where it is wanted. -/
theorem cnd_sound {g : Option Nat} (hg : gOf ops o.guard = some g) (hf : FOk N U C a) (hd : dstOk N o.dst = true) {k : Kind} {next : Fr → Cf → Hp → Prop} {run : (Value → Hp → Prop) → Prop}
    (hrun : om a (chain C g) → ∀ kk : Value → Hp → Prop, run kk → (∀ K, (∀ v H', kk v H' → K (a.put o.dst v) H') → kop P X₀ F w0 k o K a H) ∨ sem P F (execOp a.eval o) H (rawK P X₀ F w0 fun v H' => (k = .g → Hext F H H') ∧ kk v H')) (hk : k ≠ .q) (hk' : k ≠ .p)
    (h : cnd U C (chain C g) o.dst H next run) :
    if Region.wanted o (yielded ops a.tmps) then kop P X₀ F w0 k o (Kr N next) a H else Kr N next (a.put o.dst undef) H := by
  have fin : om a (chain C g) → (∀ kk : Value → Hp → Prop, (∀ v H', kk v H' → Kr N next (a.put o.dst v) H') → run kk → kop P X₀ F w0 k o (Kr N next) a H) := fun ho kk hkk hr => by
    rcases hrun ho kk hr with h1 | h1
    · exact h1 _ hkk
    · have tr : ∀ (K' : Act → Hp → Prop), (∀ v H', (k = .g → Hext F H H') ∧ kk v H' → K' (a.put o.dst v) H') → sem P F (execOp a.eval o) H (opK P X₀ F w0 o a K') := fun K' hK' =>
        sem_mono _ _ _ _ (fun n H' hn => by
          cases n <;> simp only [rawK] at hn <;> simp only [opK]
          case value v => exact hK' _ _ hn
          case skip => exact hK' _ _ hn
          case enter f args => exact hn.mono fun v H'' hv => hK' _ _ hv) h1
      cases k with
      | q => exact (hk rfl).elim
      | g => exact tr _ fun v H' hv => ⟨hv.1 rfl, hkk _ _ hv.2⟩
      | e => exact tr _ fun v H' hv => Shr.of (hkk _ _ hv.2)
      | p => exact (hk' rfl).elim
  split
  · rename_i hw
    have ho := (wanted_om hf hg).1 hw
    cases hG : chain C g with
    | nil => rw [hG] at h; exact fin ho _ (fun v H' hv => wr_yes hf hd (hG ▸ ho) hv) h
    | cons l r =>
      rw [hG] at h ho
      exact fin (hG ▸ ho) _ (fun v H' hv => wr_yes hf hd ho hv) (h.1 (hf.wf ho ho))
  · rename_i hw
    have ho : ¬ om a (chain C g) := fun h => hw ((wanted_om hf hg).2 h)
    cases hG : chain C g with
    | nil => rw [hG] at ho; exact (ho (fun l hl => by cases hl)).elim
    | cons l r =>
      rw [hG] at h ho
      refine skp_no hf hd ho (h.2 ?_)
      cases r with
      | cons _ _ => trivial
      | nil =>
        simp only [NW]
        split
        · rename_i p hp
          have h1 := hf.rd (G := []) (fun l hl => by cases hl) hp
          simp only [xv] at h1
          have : p ≠ isPar l := fun e => ho fun l' hl' => by
            simp only [List.mem_singleton] at hl'
            subst hl'; rw [h1, e]
          revert this; cases p <;> cases isPar l <;> simp
        · trivial

theorem kop_q_of {next : Fr → Cf → Hp → Prop} {v : Value} (h : Gives P F H a o v) (hn : Kr N next (a.put o.dst v) H) : kop P X₀ F w0 .q o (Kr N next) a H :=
  ⟨v, semq_mono _ _ _ (fun n hn => by rw [hn]; exact rfl) h, hn⟩

theorem FOk.Rd (hf : FOk N U C a) {G : List Nat} (ho : om a G) : Eng.Rd a (Eng.rd U C G) := fun _ _ h => hf.rd ho h

theorem rds_map (hf : FOk N U C a) {G : List Nat} (ho : om a G) {xs : Array Operand} {vs : List Value} (h : rds U C G (xs.toList.map X.of) = some vs) : xs.map a.eval = vs.toArray := by
  have := hf.rds ho h
  apply Array.ext'
  rw [← this]
  simp [xv_of]

theorem low_quiet (hl : low P o = some so.op) (hf : FOk N U C a) {G : List Nat} (ho : om a G) {ob : Prop} {v : Value} (hob : ob)
    (hq : qev F H (rd U C G) (rd U C (lit (pickC so.op) 1 ++ G)) (rd U C (lit (pickC so.op) 0 ++ G)) so.op = some (ob, v)) : Gives P F H a o v := by
  have hr := hf.Rd ho
  obtain ⟨_, s, _, _⟩ := so
  simp only at hl hq
  unfold low at hl
  split at hl
  all_goals try (simp only [Option.some.injEq] at hl)
  · rename_i x hop; subst hl; exact gives_mv hr (.inl hop) hq
  · rename_i x hop; subst hl; exact gives_mv hr (.inr hop) hq
  · rename_i c x y hop
    subst hl
    exact gives_pick hr hop (fun h => hf.Rd (om_append (om_lit (b := true) h) ho)) (fun h => hf.Rd (om_append (om_lit (b := false) h) ho)) hq hob
  · rename_i op t x y t' hop
    split at hl
    · split at hl
      · rename_i hu; simp only [Option.some.injEq] at hl; subst hl; exact gives_beq hr hop (.inl rfl) hu hq hob
      · simp only [Option.some.injEq] at hl; subst hl; exact gives_bin hr hop hq hob
      · simp only [Option.some.injEq] at hl; subst hl; exact gives_bin hr hop hq hob
      · simp only [Option.some.injEq] at hl; subst hl; cases hq
    · split at hl
      · rename_i hu; simp only [Option.some.injEq] at hl; subst hl; exact gives_beq hr hop (.inr rfl) hu hq hob
      · simp only [Option.some.injEq] at hl; subst hl; exact gives_bin hr hop hq hob
      · simp only [Option.some.injEq] at hl; subst hl; exact gives_bin hr hop hq hob
      · simp only [Option.some.injEq] at hl; subst hl; cases hq
    · simp only [Option.some.injEq] at hl; subst hl; exact gives_bin hr hop hq hob
  · rename_i op t x hop; subst hl; exact gives_un hr hop hq
  · rename_i s d x hop
    split at hl
    · rename_i k0 k hs hd; simp only [Option.some.injEq] at hl; subst hl; exact gives_conv hr hop hs hd hq
    · rename_i e hs hd
      split at hl
      · rename_i he; simp only [Option.some.injEq] at hl; subst hl; exact gives_bstr hr hop hs hd he hq
      · simp only [Option.some.injEq] at hl; subst hl; cases hq
    · split at hl <;> (simp only [Option.some.injEq] at hl; subst hl; cases hq)
    · simp only [Option.some.injEq] at hl; subst hl; cases hq
  · rename_i s x i hop
    split at hl
    · rename_i off n t hfo; simp only [Option.some.injEq] at hl; subst hl; exact gives_add hr hop hfo hq hob
    · cases hl
  · rename_i s x i hop
    split at hl
    · rename_i off n t hfo
      simp only [Option.map_eq_some_iff] at hl
      obtain ⟨g, hg, rfl⟩ := hl
      exact gives_fld hr hop hfo hg hq hob
    · cases hl
  · rename_i t x i hop
    split at hl
    · rename_i len e hu
      simp only [Option.map_eq_some_iff] at hl
      obtain ⟨n, hn, rfl⟩ := hl
      exact gives_ixA hr hop hu hn hq hob
    · rename_i e hu
      simp only [Option.map_eq_some_iff] at hl
      obtain ⟨n, hn, rfl⟩ := hl
      exact gives_ixS hr hop hu hn hq hob
    · cases hl
  · rename_i t x i hop
    split at hl
    · rename_i hu; simp only [Option.some.injEq] at hl; subst hl; exact gives_ixStr hr hop hu hq hob
    · rename_i len e hu
      split at hl
      · rename_i n g hn hg; simp only [Option.some.injEq] at hl; subst hl; exact gives_ixAgg hr hop hu hn hg hq hob
      · cases hl
    · cases hl
  · rename_i t x hop
    split at hl
    · rename_i n g hn hg; simp only [Option.some.injEq] at hl; subst hl; exact gives_ld hr hop hn hg hq hob
    · cases hl
  · rename_i x i hop; subst hl; exact gives_ext hr hop hq
  · rename_i c hop
    split at hl
    · rename_i hc
      split at hl
      · rename_i x t hx ht
        split at hl
        · rename_i hu; simp only [Option.some.injEq] at hl; subst hl; exact gives_lenStr hr hop hc hx ht hu hq hob
        · rename_i e hu; simp only [Option.some.injEq] at hl; subst hl; exact gives_lenSl hr hop hc hx ht hu hq hob
        · cases hl
      · cases hl
    · rename_i hc
      split at hl
      · rename_i x y hx; simp only [Option.some.injEq] at hl; subst hl; exact gives_mx hr hop hc hx hq hob
      · cases hl
    · split at hl <;> (simp only [Option.some.injEq] at hl; subst hl; cases hq)
    · simp only [Option.some.injEq] at hl; subst hl; cases hq
    · split at hl
      · split at hl
        · simp only [Option.some.injEq] at hl; subst hl; cases hq
        · simp only [Option.some.injEq] at hl; subst hl; cases hq
      · cases hl
    · simp only [Option.some.injEq] at hl; subst hl; cases hq
    · cases hl
  · rename_i fn fi ca hop; subst hl; exact gives_mkF hr hop hq
  · rename_i t ps hop
    split at hl
    · rename_i pl z hpl hz
      simp only [Option.map_eq_some_iff] at hl
      obtain ⟨l, hps, rfl⟩ := hl
      exact gives_build hr hop hpl hz hps hq hob
    · cases hl
  · rename_i t x lo hi hop
    split at hl
    · rename_i hu; simp only [Option.some.injEq] at hl; subst hl; exact gives_slStr hr hop hu hq hob
    · rename_i e hu
      simp only [Option.map_eq_some_iff] at hl
      obtain ⟨n, hn, rfl⟩ := hl
      exact gives_slS hr hop hu hn hq hob
    · rename_i len e hu
      simp only [Option.map_eq_some_iff] at hl
      obtain ⟨n, hn, rfl⟩ := hl
      exact gives_slA hr hop hu hn hq hob
    · cases hl
  · rename_i x hop; subst hl; exact gives_nck hr hop hq
  · split at hl <;> (simp only [Option.some.injEq] at hl; subst hl; cases hq)
  · subst hl; cases hq
  · repeat' split at hl
    all_goals (simp only [Option.some.injEq] at hl; subst hl; cases hq)
  · repeat' split at hl
    all_goals (simp only [Option.some.injEq] at hl; subst hl; cases hq)
  · simp only [Option.map_eq_some_iff] at hl; obtain ⟨z, hz, rfl⟩ := hl; cases hq
  · subst hl; cases hq
  · simp only [Option.map_eq_some_iff] at hl; obtain ⟨z, hz, rfl⟩ := hl; cases hq
  · split at hl
    · split at hl
      · split at hl
        · cases hl
        · simp only [Option.map_eq_some_iff] at hl; obtain ⟨z, hz, rfl⟩ := hl; cases hq
      · cases hl
    · cases hl
  · subst hl; cases hq
end
end Go.Eng
