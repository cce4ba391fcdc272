/- The engine, part 4: the lowering of the model's operations, and what each compact one does. -/
import Derived.Test.YtnnieekbklmgdaaDoorEng3
namespace Go.Eng
open Go

def aggB (P : Program) (t : TypeId) : Option Bool := match P.underlying t with
  | some (.struct _) => some true
  | some (.array _ _) => some true
  | some _ => some false
  | none => none
def szO (P : Program) (t : TypeId) : Option Nat := (P.info? t).map (·.size)
def zeroO (P : Program) (t : TypeId) : Option Value := (P.info? t).bind (·.zero)

/-- Where a field lies: its first cell, its number of cells (none may have none). -/
def fieldO (P : Program) (s : TypeId) (i : Nat) : Option (Nat × Nat × TypeId) := match P.underlying s with
  | some (.struct fs) => match fs[i]? with
    | some f => match szO P f.type with
      | some 0 => none
      | some n => some (f.offset, n, f.type)
      | none => none
    | none => none
  | _ => none

def placesO (P : Program) (t : TypeId) : Option (Nat → Option (Nat × Nat)) := match P.underlying t with
  | some (.struct fs) => match fs.toList.mapM (fun f => (szO P f.type).map (fun n => (f.offset, n))) with
    | some l => some (fun i => l[i]?)
    | none => none
  | some (.array _ e) => (szO P e).map fun n => fun i => some (i * n, n)
  | _ => none
def partsO (pl : Nat → Option (Nat × Nat)) (ps : List (Nat × Operand)) : Option (List (Nat × Nat × X)) :=
  ps.mapM fun p => (pl p.1).map fun q => (q.1, q.2, X.of p.2)

def intD : TypeDesc → Bool
  | .int _ => true
  | _ => false
/-- What an append's types tell: the element's cells, its bytes, its type. -/
def appT (P : Program) (c : Call) : Option (Nat × Nat × Nat) := match c.args.toList, c.argTypes.toList with
  | [_, _], [t, t2] => match P.underlying t, P.underlying t2 with
    | some (.slice e), some d => match P.info? e with
      | some i => match i.zero with
        | some z => if i.size == 0 || i.bytes == 0 || z.cells.size != i.size || intD d then none else some (i.size, i.bytes, e)
        | none => none
      | none => none
    | _, _ => none
  | _, _ => none
def mkT (P : Program) (t : Nat) : Option (Nat × Nat × Nat × List Value) := match P.underlying t with
  | some (.slice e) => match P.info? e with
    | some i => match i.zero with
      | some z => if i.size == 0 || i.bytes == 0 || z.cells.size != i.size then none else some (i.size, i.bytes, e, z.cells.toList)
      | none => none
    | none => none
  | _ => none

/-- The lowering. -/
def low (P : Program) (o : Oper) : Option S :=
  match o.op with
  | .move x | .assign x => some (.mv (X.of x))
  | .pick c a b => some (.pick (X.of c) (X.of a) (X.of b))
  | .binOp op t x y _ => match op with
    | .eql | .neq => match P.underlying t with
      | some .bool => some (.beq (op == .neq) (X.of x) (X.of y))
      | some (.int _) => some (.bin op (X.of x) (X.of y))
      | some .string => some (.bin op (X.of x) (X.of y))
      | _ => some (.raw o)
    | _ => some (.bin op (X.of x) (X.of y))
  | .unOp op _ x => some (.un op (X.of x))
  | .convert src dst x => match P.underlying src, P.underlying dst with
    | some (.int _), some (.int k) => some (.conv k (X.of x))
    | some (.slice e), some .string => match P.underlying e with
      | some (.int .u8) => some (.bstr (X.of x))
      | _ => some (.raw o)
    | some .string, some (.slice e) => match P.underlying e with
      | some (.int .u8) => some (.sbytes e (X.of x))
      | _ => some (.raw o)
    | _, _ => some (.raw o)
  | .fieldAddr s x i => match fieldO P s i with
    | some (off, _, _) => some (.add off (X.of x))
    | none => none
  | .field s x i => match fieldO P s i with
    | some (off, n, t) => (aggB P t).map fun g => .fld off n g (X.of x)
    | none => none
  | .indexAddr t x i => match P.underlying t with
    | some (.array len e) => (szO P e).map fun n => .ixA len n (X.of x) (X.of i)
    | some (.slice e) => (szO P e).map fun n => .ixS n (X.of x) (X.of i)
    | _ => none
  | .index t x i => match P.underlying t with
    | some .string => some (.ixStr (X.of x) (X.of i))
    | some (.array len e) => match szO P e, aggB P e with
      | some n, some g => some (.ixAgg len n g (X.of x) (X.of i))
      | _, _ => none
    | _ => none
  | .load t x => match szO P t, aggB P t with
    | some n, some g => some (.ld n g (X.of x))
    | _, _ => none
  | .extract x i => some (.ext (X.of x) i)
  | .call c => match c.callee with
    | .builtin .len => match c.args.toList, c.argTypes.toList with
      | [x], [t] => match P.underlying t with
        | some .string => some (.lenStr (X.of x))
        | some (.slice _) => some (.lenSl (X.of x))
        | _ => none
      | _, _ => none
    | .builtin .max => match c.args.toList with
      | [x, y] => some (.mx (X.of x) (X.of y))
      | _ => none
    | .builtin .append => match appT P c with
      | some (n, B, T) => some (.ef (.app n B T) (c.args.toList.map X.of))
      | none => some (.raw o)
    | .builtin _ => some (.raw o)
    | .value (.func f) => match P.funcs[f]? with
      | some fn => if fn.body.isSome && !(fn.name == "runtime.NumGoroutine") then some (.call f (c.args.toList.map X.of)) else some (.xcall f (c.args.toList.map X.of))
      | none => none
    | .value x => some (.callV (X.of x) (c.args.toList.map X.of))
    | _ => none
  | .makeFunc fn first captured => some (.mkF fn (first.toList.map X.of) (captured.toList.map X.of))
  | .build t ps => match placesO P t, zeroO P t with
    | some pl, some z => (partsO pl ps.toList).map fun l => .build z.cells.toList l
    | _, _ => none
  | .slice t x lo hi none => match P.underlying t with
    | some .string => some (.slStr (X.of x) (lo.map X.of) (hi.map X.of))
    | some (.slice e) => (szO P e).map fun n => .slS n (X.of x) (lo.map X.of) (hi.map X.of)
    | some (.array len e) => (szO P e).map fun n => .slA len n (X.of x) (lo.map X.of) (hi.map X.of)
    | _ => none
  | .nilCheck x => some (.nck (X.of x))
  | .makeSlice t l c => match mkT P t with
    | some (n, B, T, z) => some (.ef (.mkSl n B T z) [X.of l, X.of c])
    | none => some (.raw o)
  | .makeMap _ none => some (.ef .mkMap [])
  | .lookup t m k ok => match P.underlying t with
    | some (.map key elem) => match P.underlying key, zeroO P elem with
      | some d, some z => if keyD d then some (.ef (.mapGet d z ok) [X.of m, X.of k]) else some (.raw o)
      | _, _ => some (.raw o)
    | _ => some (.raw o)
  | .mapUpdate t m k v => match P.underlying t with
    | some (.map key _) => match P.underlying key with
      | some d => if keyD d then some (.ef (.mapSet d) [X.of m, X.of k, X.of v]) else some (.raw o)
      | none => some (.raw o)
    | _ => some (.raw o)
  | .alloc t => (zeroO P t).map fun z => .alloc t z.cells.toList
  | .box t x => some (.box t (X.of x))
  | .store t a x => (szO P t).map fun n => .store n (X.of a) (X.of x)
  | .buildSlice t len ps => match P.underlying t with
    | some (.slice e) => match szO P e, zeroO P e with
      | some n, some z => if n = 0 || len = 0 || len * n > 1000 then none else
          (partsO (fun i => some (i * n, n)) ps.toList).map fun l => .bslice e len ((List.range (len * n)).map (fun i => z.cells[i % z.cells.size]!)) l
      | _, _ => none
    | _ => none
  | _ => some (.raw o)

def bound (v : Value) : Option Int := match v with | .int _ n => some n | _ => none

def rdO (r : X → Option Value) (d : Int) : Option X → Option Int
  | none => some d
  | some x => (r x).bind bound

/-- Parts laid over cells. -/
def fillL (r : X → Option Value) (cells : List Value) : List (Nat × Nat × X) → Option (Prop × List Value)
  | [] => some (True, cells)
  | (off, n, x) :: rest => match r x with
    | some v => (fillL r (cells.take off ++ v.cells.toList ++ cells.drop (off + n)) rest).map fun p => ((v.cells.size = n ∧ off + n ≤ cells.length) ∧ p.1, p.2)
    | none => none

/-- n cells of a block. -/
def cellsAt (F : Base) (H : Hp) (b off n : Nat) : Option (List Value) := match rdObj F H b with
  | some (.cells c _ _) => if off + n ≤ c.size then some ((c.toList.drop off).take n) else none
  | _ => none

def u8s : List Value → Option (List UInt8)
  | [] => some []
  | .int .u8 n :: r => (u8s r).map (UInt8.ofNat n.toNat :: ·)
  | _ => none

/-- What a quiet operation asks, and yields. -/
def qev (F : Base) (H : Hp) (r rT rF : X → Option Value) : S → Option (Prop × Value)
  | .mv x => (r x).map fun v => (True, v)
  | .pick c x y => match r c, rT x, rF y with
    | some (.bool p), some vx, some vy => some ((p = true → isB vx) ∧ (p = false → isB vy), .bool (bif p then asB vx else asB vy))
    | _, _, _ => none
  | .bin op x y => match r x, r y with
    | some a, some b => binq op a b
    | _, _ => none
  | .beq neg x y => match r x, r y with
    | some (.bool a), some (.bool b) => some (True, .bool (if neg then !(a == b) else a == b))
    | some _, some _ => some (False, .bool false)
    | _, _ => none
  | .un op x => match r x with
    | some a => (unq op a).map fun v => (True, v)
    | none => none
  | .conv k x => match r x with
    | some (.int _ n) => some (True, .int k (k.wrap n))
    | _ => none
  | .add n x => match r x with
    | some (.pointer (some ⟨b, off, none⟩)) => some (True, .pointer (some ⟨b, off + n, none⟩))
    | some _ => some (False, undef)
    | none => none
  | .fld off n g x => match r x with
    | some (.agg cs) => if g then some (off + n ≤ cs.size, .agg ((cs.toList.drop off).take n).toArray) else some (off < cs.size, cs.getD off undef)
    | _ => none
  | .ixA len n x i => match r x, r i with
    | some (.pointer (some ⟨b, off, none⟩)), some (.int _ k) => some (0 ≤ k ∧ k < len, .pointer (some ⟨b, off + k.toNat * n, none⟩))
    | _, _ => none
  | .ixS n x i => match r x, r i with
    | some (.slice (some ⟨b, off, none⟩) len _), some (.int _ k) => some (0 ≤ k ∧ k < len, .pointer (some ⟨b, off + k.toNat * n, none⟩))
    | some (.slice _ _ _), some (.int _ _) => some (False, undef)
    | _, _ => none
  | .ixStr x i => match r x, r i with
    | some (.string s), some (.int _ k) => some (0 ≤ k ∧ k < s.data.toList.length, .int .u8 (s.data.toList.getD k.toNat 0).toNat)
    | _, _ => none
  | .ixAgg len n g x i => match r x, r i with
    | some (.agg cs), some (.int _ k) => if g then some (0 ≤ k ∧ k < len ∧ k.toNat * n + n ≤ cs.size, .agg ((cs.toList.drop (k.toNat * n)).take n).toArray)
        else some (0 ≤ k ∧ k < len ∧ k.toNat * n < cs.size, cs.getD (k.toNat * n) undef)
    | _, _ => none
  | .ld n g x => match r x with
    | some (.pointer (some ⟨b, off, none⟩)) => match cellsAt F H b off n with
      | some l => if g then some (True, .agg l.toArray) else some (n = 1, l.getD 0 undef)
      | none => some (False, undef)
    | some _ => some (False, undef)
    | none => none
  | .ext x i => match r x with
    | some (.tuple vs) => (vs[i]?).map fun v => (True, v)
    | _ => none
  | .lenStr x => match r x with
    | some (.string s) => some (True, .int .i64 s.data.toList.length)
    | some _ => some (False, .int .i64 0)
    | none => none
  | .lenSl x => match r x with
    | some (.slice _ n _) => some (True, .int .i64 n)
    | some _ => some (False, .int .i64 0)
    | none => none
  | .mkF fn first captured => match first.mapM r, captured.mapM r with
    | some a, some b => some (True, .func fn a.toArray b.toArray)
    | _, _ => none
  | .build z ps => (fillL r z ps).map fun p => (p.1, .agg p.2.toArray)
  | .slStr x lo hi => match r x with
    | some (.string s) => match rdO r 0 lo, rdO r s.data.toList.length hi with
      | some l, some h => some (0 ≤ l ∧ l ≤ h ∧ h ≤ s.data.toList.length, .string (bs ((s.data.toList.take h.toNat).drop l.toNat)))
      | _, _ => none
    | _ => none
  | .slS n x lo hi => match r x with
    | some (.slice (some ⟨b, off, none⟩) len cap) => match rdO r 0 lo, rdO r len hi with
      | some l, some h => some (0 ≤ l ∧ l ≤ h ∧ h ≤ cap ∧ (l.toNat = cap → l = 0), .slice (some ⟨b, off + l.toNat * n, none⟩) (h - l).toNat (cap - l.toNat))
      | _, _ => none
    | _ => none
  | .slA len n x lo hi => match r x with
    | some (.pointer (some ⟨b, off, none⟩)) => match rdO r 0 lo, rdO r len hi with
      | some l, some h => some (0 ≤ l ∧ l ≤ h ∧ h ≤ len ∧ (l.toNat = len → l = 0), .slice (some ⟨b, off + l.toNat * n, none⟩) (h - l).toNat (len - l.toNat))
      | _, _ => none
    | _ => none
  | .nck x => match r x with
    | some (.pointer (some p)) => some (True, .pointer (some p))
    | some (.func (.func f) a b) => some (True, .func (.func f) a b)
    | _ => none
  | .mx x y => match r x, r y with
    | some (.int k a), some (.int k' b) => some (k = k', .int k (if b > a then b else a))
    | _, _ => none
  | .bstr x => match r x with
    | some (.slice none _ _) => some (True, .string (bs []))
    | some (.slice (some ⟨b, off, none⟩) n _) => match cellsAt F H b off n with
      | some l => match u8s l with
        | some u => some (True, .string (bs u))
        | none => none
      | none => none
    | _ => none
  | _ => none

/-! ### Soundness, kind by kind -/
section
variable {P : Program} {F : Base} {H : Hp}

theorem add_eq (b off n : Nat) : (⟨b, off, none⟩ : Addr).add n = ⟨b, off + n, none⟩ := by
  unfold Addr.add; split
  · rename_i h; subst h; rfl
  · rfl

theorem semq_underlying {t : TypeId} {d : TypeDesc} (h : P.underlying t = some d) {K : TypeDesc → Prop} : semq P F H (underlying t) K ↔ K d := by
  unfold underlying; simp only [semq_bind, program, semq, h]; exact Iff.rfl
theorem semq_typeInfo {t : TypeId} {i : TypeInfo} (h : P.info? t = some i) {K : TypeInfo → Prop} : semq P F H (typeInfo t) K ↔ K i := by
  unfold typeInfo; simp only [semq_bind, program, semq, h]; exact Iff.rfl
theorem semq_pure {α : Type} {x : α} {K : α → Prop} : semq P F H (pure x : Sem α) K ↔ K x := Iff.rfl
theorem semq_sizeOf {t : TypeId} {n : Nat} (h : szO P t = some n) {K : Nat → Prop} : semq P F H (sizeOf t) K ↔ K n := by
  unfold szO at h
  cases hi : P.info? t with
  | none => rw [hi] at h; cases h
  | some i =>
    rw [hi] at h
    simp only [Option.map_some, Option.some.injEq] at h
    unfold sizeOf
    simp only [semq_bind, semq_typeInfo hi, semq_pure, h]
theorem semq_isAgg {t : TypeId} {g : Bool} (h : aggB P t = some g) {K : Bool → Prop} : semq P F H (isAgg t) K ↔ K g := by
  unfold aggB at h
  unfold isAgg
  rw [semq_bind]
  cases hu : P.underlying t with
  | none => rw [hu] at h; cases h
  | some d =>
    rw [hu] at h
    rw [semq_underlying hu]
    cases d <;> (simp only [Option.some.injEq] at h; subst h; exact Iff.rfl)
theorem semq_zero {t : TypeId} {z : Value} (h : zeroO P t = some z) {K : Value → Prop} : semq P F H (zeroValue t) K ↔ K z := by
  unfold zeroO at h
  cases hi : P.info? t with
  | none => rw [hi] at h; cases h
  | some i =>
    rw [hi] at h
    simp only [Option.bind_some] at h
    unfold zeroValue
    simp only [semq_bind, semq_typeInfo hi, h, semq_pure]

theorem semq_load {b off : Nat} {v : Value} (h : cellOf (rdObj F H b) ⟨b, off, none⟩ = some v) {K : Value → Prop} (hK : K v) : semq P F H (load ⟨b, off, none⟩) K := by
  unfold load; simp only [semq, h]; exact hK

theorem cellOf_at {b : Nat} {c : Array Value} {e : TypeId} {f : Nat × Nat} (ho : rdObj F H b = some (.cells c e f)) (i : Nat) : cellOf (rdObj F H b) ⟨b, i, none⟩ = c[i]? := by
  simp [cellOf, ho]

theorem semq_loadCellsFrom {b off : Nat} {c : Array Value} {e : TypeId} {f : Nat × Nat} (ho : rdObj F H b = some (.cells c e f)) : ∀ (n i : Nat) (acc : Array Value) (K : Array Value → Prop), off + i + n ≤ c.size →
    K (acc ++ ((c.toList.drop (off + i)).take n).toArray) → semq P F H (loadCellsFrom ⟨b, off, none⟩ i n acc) K
  | 0, i, acc, K, _, hK => by simpa [loadCellsFrom, semq_pure] using hK
  | n + 1, i, acc, K, hl, hK => by
    unfold loadCellsFrom
    rw [semq_bind, add_eq]
    have hlt : off + i < c.size := by omega
    refine semq_load (v := c[off + i]) (by rw [cellOf_at ho]; simp [hlt]) ?_
    refine semq_loadCellsFrom ho n (i + 1) _ K (by omega) ?_
    have : (c.toList.drop (off + i)).take (n + 1) = c[off + i] :: (c.toList.drop (off + (i + 1))).take n := by
      rw [List.drop_eq_getElem_cons (by simpa using hlt), List.take_succ_cons]
      simp [Nat.add_assoc]
    rw [this] at hK
    have e2 : ∀ (x : Value) (l : List Value), acc ++ (x :: l).toArray = acc.push x ++ l.toArray := fun x l => by simp
    rw [e2] at hK
    exact hK

theorem semq_loadCells {b off n : Nat} {l : List Value} (h : cellsAt F H b off n = some l) {K : Array Value → Prop} (hK : K l.toArray) : semq P F H (loadCells ⟨b, off, none⟩ n) K := by
  unfold cellsAt at h
  split at h
  · rename_i c e f ho
    split at h
    · rename_i hle
      simp only [Option.some.injEq] at h
      subst h
      unfold loadCells
      exact semq_loadCellsFrom ho n 0 #[] K (by omega) (by simpa using hK)
    · cases h
  · cases h
end
end Go.Eng
