/- The engine, part 3: compact operations over partial symbolic frames. -/
import Derived.Test.YtnnieekbklmgdaaDoorEng2
namespace Go.Eng
open Go

/-- An operand: a slot, or a constant. -/
inductive X
  | t (n : Nat)
  | c (v : Value)

def X.of : Operand → X
  | .tmp n => .t n
  | .const v => .c v
  | .global g => .c (.pointer (some ⟨g, 0, none⟩))
  | .func f => .c (.func (.func f) #[] #[])

/-- The kinds of keys that are told apart at once. -/
def keyD : TypeDesc → Bool
  | .string => true
  | .int _ => true
  | _ => false

/-- Operations on memory that grows, and on maps. -/
inductive Ef
  | app (n B T : Nat)
  | mkSl (n B T : Nat) (z : List Value)
  | mkMap
  | mapGet (d : TypeDesc) (z : Value) (ok : Bool)
  | mapSet (d : TypeDesc)

inductive S
  | mv (x : X)
  | pick (c x y : X)
  | bin (op : BinOp) (x y : X)
  | beq (neg : Bool) (x y : X)
  | un (op : UnOp) (x : X)
  | conv (k : IntKind) (x : X)
  | add (n : Nat) (x : X)
  | fld (off n : Nat) (agg : Bool) (x : X)
  | ixA (len esz : Nat) (x i : X)
  | ixS (esz : Nat) (x i : X)
  | ixStr (x i : X)
  | ixAgg (len esz : Nat) (agg : Bool) (x i : X)
  | ld (n : Nat) (agg : Bool) (x : X)
  | ext (x : X) (i : Nat)
  | lenStr (x : X)
  | lenSl (x : X)
  | mkF (fn : Fn) (first captured : List X)
  | build (zero : List Value) (parts : List (Nat × Nat × X))
  | slStr (x : X) (lo hi : Option X)
  | slS (esz : Nat) (x : X) (lo hi : Option X)
  | slA (len esz : Nat) (x : X) (lo hi : Option X)
  | mx (x y : X)
  | bstr (x : X)
  | call (f : Nat) (args : List X)
  | callV (x : X) (args : List X)
  | alloc (T : Nat) (zero : List Value)
  | box (T : Nat) (x : X)
  | store (n : Nat) (a x : X)
  | bslice (T len : Nat) (zero : List Value) (parts : List (Nat × Nat × X))
  | sbytes (T : Nat) (x : X)
  | xcall (f : Nat) (args : List X)
  | nck (x : X)
  | ef (e : Ef) (xs : List X)
  | raw (o : Oper)

structure SO where
  dst : Option Nat
  op : S
  g : Option Nat
  k : Kind

abbrev Fr := List (Nat × Option Value)
abbrev Cf := List (Nat × List Nat × Value)

def lkU : Fr → Nat → Option Value
  | [], _ => none
  | (s', v) :: r, s => if s' = s then v else lkU r s
def lkC : Cf → Nat → Option (List Nat × Value)
  | [], _ => none
  | (s', G, v) :: r, s => if s' = s then some (G, v) else lkC r s
def memG (l : Nat) : List Nat → Bool
  | [] => false
  | x :: r => if x = l then true else memG l r
def subG : List Nat → List Nat → Bool
  | [], _ => true
  | l :: r, G => memG l G && subG r G
/-- Does nothing conditional hang on slot d? -/
def freeG (d : Nat) : List Nat → Bool
  | [] => true
  | l :: r => if l / 2 = d then false else freeG d r
def cfree (d : Nat) : Cf → Bool
  | [] => true
  | (s, G, _) :: r => if s = d then false else freeG d G && cfree d r

def rd (U : Fr) (C : Cf) (G : List Nat) : X → Option Value
  | .c v => some v
  | .t n => match lkC C n with
    | some (G', v) => if subG G' G then some v else none
    | none => lkU U n
def rds (U : Fr) (C : Cf) (G : List Nat) : List X → Option (List Value)
  | [] => some []
  | x :: r => match rd U C G x with
    | some v => match rds U C G r with
      | some vs => some (v :: vs)
      | none => none
    | none => none

def chain (C : Cf) : Option Nat → List Nat
  | none => []
  | some l => l :: (match lkC C (l / 2) with | some (G, _) => G | none => [])

def isPar (l : Nat) : Bool := l % 2 == 1

/-- What the guards say of the values. -/
def Wf (U : Fr) (C : Cf) (G : List Nat) : List Nat → Prop
  | [] => True
  | l :: r => (match rd U C G (.t (l / 2)) with
    | some (.bool p) => p = isPar l
    | _ => True) ∧ Wf U C G r

def om (a : Act) (G : List Nat) : Prop := ∀ l ∈ G, a.tmps.getD (l / 2) undef = .bool (isPar l)

structure FOk (N : Nat) (U : Fr) (C : Cf) (a : Act) : Prop where
  defers : a.defers = []
  size : a.tmps.size = N
  u : ∀ s v, lkU U s = some v → a.tmps.getD s undef = v
  c : ∀ s G v, lkC C s = some (G, v) → (om a G ∧ a.tmps.getD s undef = v) ∨ (¬ om a G ∧ a.tmps.getD s undef = undef)

def xv (a : Act) : X → Value
  | .t n => a.tmps.getD n undef
  | .c v => v

theorem xv_of (a : Act) (x : Operand) : xv a (X.of x) = a.eval x := by cases x <;> rfl

theorem memG_spec {l : Nat} {G : List Nat} (h : memG l G = true) : l ∈ G := by
  induction G with
  | nil => simp [memG] at h
  | cons x r ih =>
    simp only [memG] at h
    split at h
    · rename_i e; subst e; simp
    · exact List.mem_cons_of_mem _ (ih h)

theorem om_sub {a : Act} {G' G : List Nat} (h : subG G' G = true) (ho : om a G) : om a G' := by
  induction G' with
  | nil => intro l hl; cases hl
  | cons x r ih =>
    simp only [subG, Bool.and_eq_true] at h
    intro l hl
    rcases List.mem_cons.1 hl with e | hl
    · subst e; exact ho _ (memG_spec h.1)
    · exact ih h.2 l hl

theorem FOk.rd {N : Nat} {U : Fr} {C : Cf} {a : Act} (h : FOk N U C a) {G : List Nat} (ho : om a G) {x : X} {v : Value} (hr : rd U C G x = some v) : xv a x = v := by
  cases x with
  | c v' => simp only [Eng.rd, Option.some.injEq] at hr; exact hr
  | t n =>
    simp only [Eng.rd] at hr
    split at hr
    · rename_i G' v' hl
      split at hr
      · rename_i hs
        simp only [Option.some.injEq] at hr
        subst hr
        rcases h.c _ _ _ hl with h1 | h1
        · exact h1.2
        · exact (h1.1 (om_sub hs ho)).elim
      · cases hr
    · exact h.u _ _ hr

theorem FOk.rds {N : Nat} {U : Fr} {C : Cf} {a : Act} (h : FOk N U C a) {G : List Nat} (ho : om a G) : ∀ {xs : List X} {vs : List Value}, rds U C G xs = some vs → xs.map (xv a) = vs
  | [], vs, hr => by simp only [Eng.rds, Option.some.injEq] at hr; subst hr; rfl
  | x :: r, vs, hr => by
    simp only [Eng.rds] at hr
    split at hr
    · rename_i v hv
      split at hr
      · rename_i vs' hvs
        simp only [Option.some.injEq] at hr
        subst hr
        rw [List.map_cons, h.rd ho hv, h.rds ho hvs]
      · cases hr
    · cases hr

theorem FOk.wf {N : Nat} {U : Fr} {C : Cf} {a : Act} (h : FOk N U C a) {G : List Nat} (ho : om a G) : ∀ {G' : List Nat}, om a G' → Wf U C G G'
  | [], _ => trivial
  | l :: r, ho' => by
    refine ⟨?_, h.wf ho fun x hx => ho' x (List.mem_cons_of_mem _ hx)⟩
    split
    · rename_i p hp
      have h1 := h.rd ho hp
      have h2 := ho' l (by simp)
      simp only [xv] at h1
      rw [h1] at h2
      simpa using h2
    · trivial

theorem getD_put {a : Act} {d s : Nat} {v : Value} (hd : d < a.tmps.size) : (a.put (some d) v).tmps.getD s undef = if d = s then v else a.tmps.getD s undef := by
  simp only [Act.put, Array.getD_eq_getD_getElem?]
  split
  · rename_i e; subst e; simp [hd]
  · rename_i e; rw [Array.getElem?_setIfInBounds_ne e]

theorem freeG_spec {d : Nat} {G : List Nat} (h : freeG d G = true) : ∀ l ∈ G, l / 2 ≠ d := by
  induction G with
  | nil => intro l hl; cases hl
  | cons x r ih =>
    simp only [freeG] at h
    split at h
    · cases h
    · rename_i hne
      intro l hl
      rcases List.mem_cons.1 hl with e | hl
      · subst e; exact hne
      · exact ih h l hl

theorem cfree_spec {d : Nat} {C : Cf} (h : cfree d C = true) : ∀ s G v, lkC C s = some (G, v) → s ≠ d ∧ freeG d G = true := by
  induction C with
  | nil => intro s G v hl; cases hl
  | cons x r ih =>
    obtain ⟨s', G', v'⟩ := x
    simp only [cfree] at h
    split at h
    · cases h
    · rename_i hne
      simp only [Bool.and_eq_true] at h
      intro s G v hl
      simp only [lkC] at hl
      split at hl
      · rename_i e; subst e; simp only [Option.some.injEq, Prod.mk.injEq] at hl; obtain ⟨rfl, rfl⟩ := hl; exact ⟨hne, h.1⟩
      · exact ih h.2 s G v hl

theorem om_put {a : Act} {d : Nat} {v : Value} {G : List Nat} (hd : d < a.tmps.size) (hf : freeG d G = true) : om (a.put (some d) v) G ↔ om a G := by
  unfold om
  have : ∀ l ∈ G, (a.put (some d) v).tmps.getD (l / 2) undef = a.tmps.getD (l / 2) undef := fun l hl => by
    rw [getD_put hd, if_neg (fun e => freeG_spec hf l hl e.symm)]
  constructor
  · intro h l hl; rw [← this l hl]; exact h l hl
  · intro h l hl; rw [this l hl]; exact h l hl

/-- The frame behind a write; 'yes': the operation was carried out. -/
def wr (dst : Option Nat) (G : List Nat) (v : Value) (U : Fr) (C : Cf) (next : Fr → Cf → Prop) : Prop := match dst with
  | none => next U C
  | some d => cfree d C = true ∧ (match G with
    | [] => next ((d, some v) :: U) C
    | _ :: _ => freeG d G = true ∧ next ((d, none) :: U) ((d, G, v) :: C))

theorem FOk.put_u {N : Nat} {U : Fr} {C : Cf} {a : Act} (h : FOk N U C a) {d : Nat} (hd : d < N) (hc : cfree d C = true) (v : Value) : FOk N ((d, some v) :: U) C (a.put (some d) v) where
  defers := h.defers
  size := by simp [Act.put, h.size]
  u s v' hl := by
    rw [getD_put (h.size ▸ hd)]
    simp only [lkU] at hl
    split at hl
    · rename_i e; rw [if_pos e]; simpa using hl
    · rename_i e; rw [if_neg e]; exact h.u s v' hl
  c s G v' hl := by
    obtain ⟨h1, h2⟩ := cfree_spec hc s G v' hl
    rw [om_put (h.size ▸ hd) h2, getD_put (h.size ▸ hd), if_neg (fun e => h1 e.symm)]
    exact h.c s G v' hl

theorem FOk.put_c {N : Nat} {U : Fr} {C : Cf} {a : Act} (h : FOk N U C a) {d : Nat} (hd : d < N) (hc : cfree d C = true) {G : List Nat} (hG : freeG d G = true) {v u : Value}
    (hv : (om a G ∧ u = v) ∨ (¬ om a G ∧ u = undef)) : FOk N ((d, none) :: U) ((d, G, v) :: C) (a.put (some d) u) where
  defers := h.defers
  size := by simp [Act.put, h.size]
  u s v' hl := by
    rw [getD_put (h.size ▸ hd)]
    simp only [lkU] at hl
    split at hl
    · cases hl
    · rename_i e; rw [if_neg e]; exact h.u s v' hl
  c s G' v' hl := by
    simp only [lkC] at hl
    split at hl
    · rename_i e
      subst e
      simp only [Option.some.injEq, Prod.mk.injEq] at hl
      obtain ⟨rfl, rfl⟩ := hl
      rw [om_put (h.size ▸ hd) hG, getD_put (h.size ▸ hd), if_pos rfl]
      exact hv
    · rename_i e
      obtain ⟨h1, h2⟩ := cfree_spec hc s G' v' hl
      rw [om_put (h.size ▸ hd) h2, getD_put (h.size ▸ hd), if_neg e]
      exact h.c s G' v' hl

/-- Behind a region the conditional slots are forgotten. -/
theorem FOk.settle {N : Nat} {U : Fr} {C : Cf} {a : Act} (h : FOk N U C a) : FOk N U [] a := ⟨h.defers, h.size, h.u, fun _ _ _ hl => by cases hl⟩

/-! ### Values -/
def isB : Value → Prop
  | .bool _ => True
  | _ => False
def asB : Value → Bool
  | .bool b => b
  | _ => false
theorem isB_asB {v : Value} (h : isB v) : v = .bool (asB v) := by cases v <;> simp_all [isB, asB]

/-- Strings as lists of bytes. -/
def bs (l : List UInt8) : ByteArray := ⟨⟨l⟩⟩

def binq (op : BinOp) (x y : Value) : Option (Prop × Value) :=
  match op, x, y with
  | .shl, .int k a, .int _ b => some (0 ≤ b, .int k (k.wrap (a * 2 ^ (min b.toNat k.bits))))
  | .shr, .int k a, .int _ b => some (0 ≤ b, .int k (a.fdiv (2 ^ (min b.toNat k.bits))))
  | .add, .int k a, .int k' b => some (k = k', .int k (k.wrap (a + b)))
  | .sub, .int k a, .int k' b => some (k = k', .int k (k.wrap (a - b)))
  | .mul, .int k a, .int k' b => some (k = k', .int k (k.wrap (a * b)))
  | .quo, .int k a, .int k' b => some (k = k' ∧ b ≠ 0, .int k (k.wrap (a.tdiv b)))
  | .rem, .int k a, .int k' b => some (k = k' ∧ b ≠ 0, .int k (a.tmod b))
  | .and, .int k a, .int k' b => some (k = k', .int k (k.wrap (BitVec.ofInt k.bits a &&& BitVec.ofInt k.bits b).toNat))
  | .or, .int k a, .int k' b => some (k = k', .int k (k.wrap (BitVec.ofInt k.bits a ||| BitVec.ofInt k.bits b).toNat))
  | .eql, .int k a, .int k' b => some (k = k', .bool (a == b))
  | .neq, .int k a, .int k' b => some (k = k', .bool (a != b))
  | .lss, .int k a, .int k' b => some (k = k', .bool (decide (a < b)))
  | .leq, .int k a, .int k' b => some (k = k', .bool (decide (a ≤ b)))
  | .gtr, .int k a, .int k' b => some (k = k', .bool (decide (b < a)))
  | .geq, .int k a, .int k' b => some (k = k', .bool (decide (b ≤ a)))
  | .add, .string a, .string b => some (a.size + b.size ≤ 9223372036854775807, .string (a ++ b))
  | .eql, .string a, .string b => some (True, .bool (a.data.toList == b.data.toList))
  | .neq, .string a, .string b => some (True, .bool (!(a.data.toList == b.data.toList)))
  | .lss, .string a, .string b => some (True, .bool (Op.bytesLess a.data.toList b.data.toList))
  | .leq, .string a, .string b => some (True, .bool (Op.bytesLess a.data.toList b.data.toList || a.data.toList == b.data.toList))
  | .gtr, .string a, .string b => some (True, .bool (!(Op.bytesLess a.data.toList b.data.toList || a.data.toList == b.data.toList)))
  | .geq, .string a, .string b => some (True, .bool (!Op.bytesLess a.data.toList b.data.toList))
  | _, _, _ => none

def unq (op : UnOp) (x : Value) : Option Value :=
  match op, x with
  | .neg, .int k a => some (.int k (k.wrap (0 - a)))
  | .not, .bool b => some (.bool !b)
  | _, _ => none

theorem toList_eq (a : ByteArray) : a.toList = a.data.toList := ByteArray.toList_eq a
end Go.Eng
