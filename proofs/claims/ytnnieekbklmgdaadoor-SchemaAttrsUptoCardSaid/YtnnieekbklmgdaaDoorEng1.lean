/- The engine, part 1: classes of worlds over a tracked heap; a weakest precondition of the model's own commands over them. -/
import Derived.WalkKit
import Derived.Deep.Quiet
namespace Go.Eng
open Go

abbrev Hp := List (Nat × Obj)
abbrev Base := Nat → Option Obj

/-- The world w is of the class: below w0's size nothing turned but the blocks X; F's blocks and the tracked ones read as said. -/
structure Sat (X : List Nat) (F : Base) (w0 : World) (H : Hp) (w : World) : Prop where
  os : w.os = w0.os
  tape : w.tape = w0.tape
  output : w.output = w0.output
  size : w0.heap.size ≤ w.heap.size
  base : ∀ b o, F b = some o → w.heap[b]? = some o
  own : ∀ e ∈ H, w.heap[e.1]? = some e.2
  apart : ∀ e ∈ H, F e.1 = none
  fresh : ∀ e ∈ H, e.1 ∈ X ∨ w0.heap.size ≤ e.1
  old : ∀ k, k < w0.heap.size → k ∉ X → w.heap[k]? = w0.heap[k]?

def lk : Hp → Nat → Option Obj
  | [], _ => none
  | (b', o) :: r, b => if b' = b then some o else lk r b

def rdObj (F : Base) (H : Hp) (b : Nat) : Option Obj := match F b with
  | some o => some o
  | none => lk H b

def cellOf (o : Option Obj) (a : Addr) : Option Value := match o with
  | some (.cells c _ _) => if a.spot.isSome then none else c[a.off]?
  | _ => none
def frozenOf (o : Option Obj) (a : Addr) : Bool := match o with
  | some (.cells _ _ (lo, hi)) => lo ≤ a.off && a.off < hi
  | _ => false
def shapeOf (o : Option Obj) : Option (TypeId × Nat) := match o with
  | some (.cells c e _) => some (e, c.size)
  | _ => none

def upd (H : Hp) (b : Nat) (o : Obj) : Hp := match H with
  | [] => []
  | (b', o') :: r => if b' = b then (b', o) :: upd r b o else (b', o') :: upd r b o

theorem lk_mem {H : Hp} {b : Nat} {o : Obj} (h : lk H b = some o) : (b, o) ∈ H := by
  induction H with
  | nil => simp [lk] at h
  | cons e r ih =>
    obtain ⟨b', o'⟩ := e
    simp only [lk] at h
    split at h
    · rename_i e; subst e; simp at h; simp [h]
    · exact List.mem_cons_of_mem _ (ih h)

theorem mem_upd {H : Hp} {b : Nat} {o : Obj} {e : Nat × Obj} (h : e ∈ upd H b o) : (e.1 = b ∧ e.2 = o ∧ ∃ o', (b, o') ∈ H) ∨ (e.1 ≠ b ∧ e ∈ H) := by
  induction H with
  | nil => simp [upd] at h
  | cons x r ih =>
    obtain ⟨b', o'⟩ := x
    simp only [upd] at h
    split at h
    · rename_i hb
      subst hb
      rcases List.mem_cons.1 h with h | h
      · subst h; exact .inl ⟨rfl, rfl, o', by simp⟩
      · rcases ih h with ⟨h1, h2, o'', h3⟩ | ⟨h1, h2⟩
        · exact .inl ⟨h1, h2, o'', by simp [h3]⟩
        · exact .inr ⟨h1, List.mem_cons_of_mem _ h2⟩
    · rename_i hb
      rcases List.mem_cons.1 h with h | h
      · subst h; exact .inr ⟨hb, by simp⟩
      · rcases ih h with ⟨h1, h2, o'', h3⟩ | ⟨h1, h2⟩
        · exact .inl ⟨h1, h2, o'', by simp [h3]⟩
        · exact .inr ⟨h1, List.mem_cons_of_mem _ h2⟩

section
variable {X : List Nat} {F : Base} {w0 w : World} {H : Hp}

theorem Sat.rd (h : Sat X F w0 H w) {b : Nat} {o : Obj} (hr : rdObj F H b = some o) : w.heap[b]? = some o := by
  unfold rdObj at hr
  cases hF : F b with
  | some o' => rw [hF] at hr; simp at hr; subst hr; exact h.base b _ hF
  | none => rw [hF] at hr; exact h.own _ (lk_mem hr)

theorem Sat.cell (h : Sat X F w0 H w) {a : Addr} {v : Value} (hc : cellOf (rdObj F H a.block) a = some v) : w.cell? a = some v := by
  unfold cellOf at hc
  split at hc
  · rename_i c e f ho
    have := h.rd ho
    simp only [World.cell?, this]
    exact hc
  · cases hc

theorem Sat.frozen (h : Sat X F w0 H w) {b : Nat} {o : Obj} (hr : rdObj F H b = some o) (a : Addr) (ha : a.block = b) : w.frozen? a = frozenOf (some o) a := by
  subst ha
  have := h.rd hr
  unfold World.frozen? frozenOf
  rw [this]
  cases o <;> rfl

theorem Sat.key_lt (h : Sat X F w0 H w) : ∀ e ∈ H, e.1 < w.heap.size := fun e he => by
  have := h.own e he
  rcases Nat.lt_or_ge e.1 w.heap.size with h1 | h1
  · exact h1
  · simp [Array.getElem?_eq_none h1] at this

theorem Sat.base_new (h : Sat X F w0 H w) : F w.heap.size = none := by
  cases hF : F w.heap.size with
  | none => rfl
  | some o => have := h.base _ _ hF; simp at this

theorem Sat.new (h : Sat X F w0 H w) (o : Obj) : Sat X F w0 ((w.heap.size, o) :: H) { w with heap := w.heap.push o } where
  os := h.os
  tape := h.tape
  output := h.output
  size := by simp; have := h.size; omega
  base b o' hb := by
    have := h.base b o' hb
    show (w.heap.push o)[b]? = _
    rw [Array.getElem?_push]
    split
    · subst_vars; simp at this
    · exact this
  own e he := by
    show (w.heap.push o)[e.1]? = _
    rcases List.mem_cons.1 he with he | he
    · subst he; simp
    · have := h.own e he
      have hl := h.key_lt e he
      rw [Array.getElem?_push, if_neg (by omega)]; exact this
  apart e he := by
    rcases List.mem_cons.1 he with he | he
    · subst he; exact h.base_new
    · exact h.apart e he
  fresh e he := by
    rcases List.mem_cons.1 he with he | he
    · subst he; exact .inr h.size
    · exact h.fresh e he
  old k hk hX := by
    show (w.heap.push o)[k]? = _
    have := h.size
    rw [Array.getElem?_push, if_neg (by omega)]; exact h.old k hk hX

theorem Sat.drew (h : Sat X F w0 H w) (n : Nat) : Sat X F w0 H { w with drawn := n } := ⟨h.os, h.tape, h.output, h.size, h.base, h.own, h.apart, h.fresh, h.old⟩

/-- One tracked block is written. -/
theorem Sat.put (h : Sat X F w0 H w) {b : Nat} {o : Obj} {w' : World} (hm : ∃ o', (b, o') ∈ H) (hos : w'.os = w.os) (ht : w'.tape = w.tape) (hout : w'.output = w.output)
    (hb : w'.heap[b]? = some o) (hs : w'.heap.size = w.heap.size) (hk : ∀ k, k ≠ b → w'.heap[k]? = w.heap[k]?) : Sat X F w0 (upd H b o) w' where
  os := hos.trans h.os
  tape := ht.trans h.tape
  output := hout.trans h.output
  size := hs ▸ h.size
  base b' o' hF := by
    obtain ⟨o2, hm⟩ := hm
    have hne : b' ≠ b := fun e => by subst e; have := h.apart _ hm; simp [hF] at this
    rw [hk b' hne]; exact h.base _ _ hF
  own e he := by
    rcases mem_upd he with ⟨h1, h2, _⟩ | ⟨h1, h2⟩
    · rw [h1, h2]; exact hb
    · rw [hk _ h1]; exact h.own e h2
  apart e he := by
    rcases mem_upd he with ⟨h1, h2, o', h3⟩ | ⟨h1, h2⟩
    · rw [h1]; exact h.apart _ h3
    · exact h.apart e h2
  fresh e he := by
    rcases mem_upd he with ⟨h1, h2, o', h3⟩ | ⟨h1, h2⟩
    · rw [h1]; exact h.fresh _ h3
    · exact h.fresh e h2
  old k hk' hX := by
    obtain ⟨o2, hm⟩ := hm
    have hne : k ≠ b := fun e => by
      subst e
      rcases h.fresh _ hm with h1 | h1
      · exact hX h1
      · exact absurd h1 (by simpa using hk')
    rw [hk k hne]; exact h.old k hk' hX

/-- Fewer blocks are tracked. -/
theorem Sat.less (h : Sat X F w0 H w) {H' : Hp} (hs : ∀ e ∈ H', e ∈ H) : Sat X F w0 H' w :=
  ⟨h.os, h.tape, h.output, h.size, h.base, fun e he => h.own e (hs e he), fun e he => h.apart e (hs e he), fun e he => h.fresh e (hs e he), h.old⟩
end

/-- Is it the value of one cell? -/
def oneCell : Value → Bool
  | .agg _ => false
  | .tuple _ => false
  | _ => true

def stH (F : Base) (H : Hp) (a : Addr) (v : Value) : Option Hp :=
  if oneCell v then
    match F a.block, lk H a.block with
    | none, some (.cells c e fz) => if a.spot.isSome then none else if a.off < c.size then if fz.1 ≤ a.off && a.off < fz.2 then none else some (upd H a.block (.cells (c.setIfInBounds a.off v) e fz)) else none
    | _, _ => none
  else none

def frH (F : Base) (H : Hp) (a : Addr) (n : Nat) : Option Hp :=
  if n = 0 then some H else
  match F a.block, lk H a.block with
  | none, some (.cells c e (lo, hi)) => some (upd H a.block (.cells c e (if lo == hi then (a.off, a.off + n) else (min lo a.off, max hi (a.off + n)))))
  | _, _ => none

def soH (F : Base) (H : Hp) (r : Nat) (o : Obj) : Option Hp :=
  match F r, lk H r with
  | none, some (.cells ..) => none
  | none, some _ => some (upd H r o)
  | _, _ => none

/-- What a command asks of the class, and leaves. -/
def sem {α : Type} (P : Program) (F : Base) : Sem α → Hp → (α → Hp → Prop) → Prop
  | .pure a, H, K => K a H
  | .load _ a k, H, K => match cellOf (rdObj F H a.block) a with
    | some v => sem P F (k v) H K
    | none => False
  | .store _ a v k, H, K => match stH F H a v with
    | some H' => sem P F k H' K
    | none => False
  | .new o k, H, K => ∀ b, (∀ e ∈ H, e.1 ≠ b) → F b = none → sem P F (k b) ((b, o) :: H) K
  | .shape r k, H, K => match rdObj F H r with
    | some o => sem P F (k (shapeOf (some o))) H K
    | none => False
  | .freeze a n k, H, K => match frH F H a n with
    | some H' => sem P F k H' K
    | none => False
  | .frozen a k, H, K => match rdObj F H a.block with
    | some o => sem P F (k (frozenOf (some o) a)) H K
    | none => False
  | .getObj r k, H, K => match rdObj F H r with
    | some (.cells ..) => False
    | some o => sem P F (k o) H K
    | none => False
  | .setObj r o k, H, K => match soH F H r o with
    | some H' => sem P F k H' K
    | none => False
  | .choose q k, H, K => if q.forced then sem P F (k 0) H K else ∀ t, sem P F (k (q.cut t)) H K
  | .sys _ _, _, _ => False
  | .program k, H, K => sem P F (k P) H K
  | .mark _ k, H, K => sem P F k H K
  | .halt _, _, _ => False

theorem sem_sound {α : Type} {P : Program} {X : List Nat} {F : Base} {w0 : World} (s : Sem α) : ∀ (H : Hp) (w : World) (K : α → Hp → Prop), sem P F s H K → Sat X F w0 H w →
    ∃ x w' H', s.run P w = .ok x w' ∧ Sat X F w0 H' w' ∧ K x H' := by
  induction s with
  | pure a => exact fun H w K h hs => ⟨a, w, H, rfl, hs, h⟩
  | load m a k ih =>
    intro H w K h hs
    simp only [sem] at h
    split at h
    · rename_i v hv
      simp only [Sem.run, hs.cell hv]
      exact ih v H w K h hs
    · exact h.elim
  | store m a v k ih =>
    intro H w K h hs
    simp only [sem] at h
    split at h
    case h_2 => exact h.elim
    rename_i H' hH
    unfold stH at hH
    split at hH
    case isFalse => cases hH
    rename_i hone
    split at hH
    case h_2 => cases hH
    rename_i c e fz hF hl
    split at hH
    · cases hH
    rename_i hsp
    split at hH
    case isFalse => cases hH
    rename_i hoff
    split at hH
    · cases hH
    rename_i hfz
    simp only [Option.some.injEq] at hH
    subst hH
    have hm := lk_mem hl
    have hb : w.heap[a.block]? = some (.cells c e fz) := hs.own _ hm
    have hcell : w.cell? a = some c[a.off] := by
      simp only [World.cell?, hb]
      rw [if_neg hsp, Array.getElem?_eq_getElem hoff]
    have hfr : w.frozen? a = false := by
      simp only [World.frozen?, hb]
      obtain ⟨lo, hi⟩ := fz
      simpa using hfz
    have hrun : (Sem.store m a v k).run P w = k.run P (w.setCell a v) := by
      cases v <;> first | (simp [oneCell] at hone; done) | (simp [Sem.run, hcell, hfr])
    rw [hrun]
    refine ih _ _ K h (hs.put (w' := w.setCell a v) ⟨_, hm⟩ rfl rfl rfl ?_ (by simp [World.setCell]) fun k hk => ?_)
    · simp only [World.setCell, Array.getElem?_modify, if_true, hb, Option.map_some]
      simp [hsp]
    · simp only [World.setCell, Array.getElem?_modify]
      rw [if_neg (by omega)]
  | new o k ih =>
    intro H w K h hs
    simp only [sem] at h
    simp only [Sem.run]
    exact ih _ _ _ K (h w.heap.size (fun e he => Nat.ne_of_lt (hs.key_lt e he)) hs.base_new) (hs.new o)
  | shape r k ih =>
    intro H w K h hs
    simp only [sem] at h
    split at h
    case h_2 => exact h.elim
    rename_i o ho
    have hb := hs.rd ho
    have : w.shape? r = shapeOf (some o) := by simp only [World.shape?, shapeOf, hb]; cases o <;> rfl
    simp only [Sem.run, this]
    exact ih _ H w K h hs
  | freeze a n k ih =>
    intro H w K h hs
    simp only [sem] at h
    split at h
    case h_2 => exact h.elim
    rename_i H' hH
    simp only [Sem.run]
    unfold frH at hH
    split at hH
    · rename_i hn
      subst hn
      simp only [Option.some.injEq] at hH
      subst hH
      rw [show w.freeze a 0 = w from rfl]
      exact ih _ _ K h hs
    · rename_i hn
      split at hH
      case h_2 => cases hH
      rename_i c e lo hi hF hl
      simp only [Option.some.injEq] at hH
      subst hH
      have hm := lk_mem hl
      have hb : w.heap[a.block]? = some (.cells c e (lo, hi)) := hs.own _ hm
      refine ih _ _ K h (hs.put (w' := w.freeze a n) ⟨_, hm⟩ ?_ ?_ ?_ ?_ ?_ fun k hk => ?_)
      · simp [World.freeze, hn]
      · simp [World.freeze, hn]
      · simp [World.freeze, hn]
      · simp only [World.freeze, hn, if_false, Array.getElem?_modify, if_true, hb, Option.map_some]
      · simp [World.freeze, hn]
      · simp only [World.freeze, hn, if_false, Array.getElem?_modify]
        rw [if_neg (by omega)]
  | frozen a k ih =>
    intro H w K h hs
    simp only [sem] at h
    split at h
    case h_2 => exact h.elim
    rename_i o ho
    simp only [Sem.run, hs.frozen ho a rfl]
    exact ih _ H w K h hs
  | getObj r k ih =>
    intro H w K h hs
    simp only [sem] at h
    split at h
    · exact h.elim
    · rename_i o hno ho
      have hb := hs.rd ho
      have hrun : (Sem.getObj r k).run P w = (k o).run P w := by
        simp only [Sem.run, hb]
      rw [hrun]
      exact ih _ H w K h hs
    · exact h.elim
  | setObj r o k ih =>
    intro H w K h hs
    simp only [sem] at h
    split at h
    case h_2 => exact h.elim
    rename_i H' hH
    unfold soH at hH
    split at hH
    · cases hH
    · rename_i o' hno hF hl
      simp only [Option.some.injEq] at hH
      subst hH
      have hm := lk_mem hl
      have hb : w.heap[r]? = some o' := hs.own _ hm
      have hlt : r < w.heap.size := hs.key_lt _ hm
      have hrun : (Sem.setObj r o k).run P w = k.run P { w with heap := w.heap.setIfInBounds r o } := by
        simp only [Sem.run, hb]
      rw [hrun]
      refine ih _ _ K h (hs.put (w' := { w with heap := w.heap.setIfInBounds r o }) ⟨_, hm⟩ rfl rfl rfl ?_ (by simp) fun k hk => ?_)
      · simp [hlt]
      · show (w.heap.setIfInBounds r o)[k]? = _
        rw [Array.getElem?_setIfInBounds_ne (by omega)]
    · cases hH
  | choose q k ih =>
    intro H w K h hs
    simp only [sem] at h
    simp only [Sem.run]
    split
    · rename_i hq; rw [if_pos hq] at h; exact ih _ H w K h hs
    · rename_i hq; rw [if_neg hq] at h; exact ih _ H _ K (h _) (hs.drew _)
  | sys c k ih => exact fun H w K h _ => h.elim
  | program k ih =>
    intro H w K h hs
    simp only [sem] at h
    exact ih P H w K h hs
  | mark m k ih =>
    intro H w K h hs
    simp only [sem] at h
    exact ih H w K h hs
  | halt x => exact fun H w K h _ => h.elim

theorem sem_mono {α : Type} {P : Program} {F : Base} (s : Sem α) : ∀ (H : Hp) (K K' : α → Hp → Prop), (∀ x H', K x H' → K' x H') → sem P F s H K → sem P F s H K' := by
  induction s with
  | pure a => exact fun H K K' hk h => hk _ _ h
  | load m a k ih => intro H K K' hk h; simp only [sem] at h ⊢; split at h <;> first | (exact ih _ _ _ _ hk h) | (exact h.elim)
  | store m a v k ih => intro H K K' hk h; simp only [sem] at h ⊢; split at h <;> first | (exact ih _ _ _ hk h) | (exact h.elim)
  | new o k ih => intro H K K' hk h; simp only [sem] at h ⊢; exact fun b h1 h2 => ih _ _ _ _ hk (h b h1 h2)
  | shape r k ih => intro H K K' hk h; simp only [sem] at h ⊢; split at h <;> first | (exact ih _ _ _ _ hk h) | (exact h.elim)
  | freeze a n k ih => intro H K K' hk h; simp only [sem] at h ⊢; split at h <;> first | (exact ih _ _ _ hk h) | (exact h.elim)
  | frozen a k ih => intro H K K' hk h; simp only [sem] at h ⊢; split at h <;> first | (exact ih _ _ _ _ hk h) | (exact h.elim)
  | getObj r k ih => intro H K K' hk h; simp only [sem] at h ⊢; split at h <;> first | (exact h.elim) | (exact ih _ _ _ _ hk h)
  | setObj r o k ih => intro H K K' hk h; simp only [sem] at h ⊢; split at h <;> first | (exact ih _ _ _ hk h) | (exact h.elim)
  | choose q k ih =>
    intro H K K' hk h; simp only [sem] at h ⊢
    by_cases hq : q.forced = true
    · rw [if_pos hq] at h ⊢; exact ih _ _ _ _ hk h
    · rw [if_neg hq] at h ⊢; exact fun t => ih _ _ _ _ hk (h t)
  | sys c k ih => exact fun H K K' hk h => h.elim
  | program k ih => intro H K K' hk h; simp only [sem] at h ⊢; exact ih _ _ _ _ hk h
  | mark m k ih => intro H K K' hk h; simp only [sem] at h ⊢; exact ih _ _ _ hk h
  | halt x => exact fun H K K' hk h => h.elim

theorem sem_bind {α β : Type} {P : Program} {F : Base} (s : Sem α) : ∀ (f : α → Sem β) (H : Hp) (K : β → Hp → Prop), sem P F (s >>= f) H K ↔ sem P F s H (fun x H' => sem P F (f x) H' K) := by
  show ∀ (f : α → Sem β) (H : Hp) (K : β → Hp → Prop), sem P F (s.bind f) H K ↔ _
  induction s with
  | pure a => exact fun f H K => Iff.rfl
  | load m a k ih => intro f H K; simp only [sem, Sem.bind]; split <;> first | (exact ih _ _ _ _) | (exact Iff.rfl)
  | store m a v k ih => intro f H K; simp only [sem, Sem.bind]; split <;> first | (exact ih _ _ _) | (exact Iff.rfl)
  | new o k ih => intro f H K; simp only [sem, Sem.bind]; exact forall_congr' fun b => imp_congr_right fun _ => imp_congr_right fun _ => ih _ _ _ _
  | shape r k ih => intro f H K; simp only [sem, Sem.bind]; split <;> first | (exact ih _ _ _ _) | (exact Iff.rfl)
  | freeze a n k ih => intro f H K; simp only [sem, Sem.bind]; split <;> first | (exact ih _ _ _) | (exact Iff.rfl)
  | frozen a k ih => intro f H K; simp only [sem, Sem.bind]; split <;> first | (exact ih _ _ _ _) | (exact Iff.rfl)
  | getObj r k ih => intro f H K; simp only [sem, Sem.bind]; split <;> first | (exact Iff.rfl) | (exact ih _ _ _ _)
  | setObj r o k ih => intro f H K; simp only [sem, Sem.bind]; split <;> first | (exact ih _ _ _) | (exact Iff.rfl)
  | choose q k ih => intro f H K; simp only [sem, Sem.bind]; split <;> first | (exact ih _ _ _ _) | (exact forall_congr' fun t => ih _ _ _ _)
  | sys c k ih => exact fun f H K => Iff.rfl
  | program k ih => intro f H K; simp only [sem, Sem.bind]; exact ih _ _ _ _
  | mark m k ih => intro f H K; simp only [sem, Sem.bind]; exact ih _ _ _
  | halt x => exact fun f H K => Iff.rfl

/-- Commands that only read. -/
def semq {α : Type} (P : Program) (F : Base) (H : Hp) : Sem α → (α → Prop) → Prop
  | .pure a, K => K a
  | .load _ a k, K => match cellOf (rdObj F H a.block) a with
    | some v => semq P F H (k v) K
    | none => False
  | .shape r k, K => match rdObj F H r with
    | some o => semq P F H (k (shapeOf (some o))) K
    | none => False
  | .frozen a k, K => match rdObj F H a.block with
    | some o => semq P F H (k (frozenOf (some o) a)) K
    | none => False
  | .getObj r k, K => match rdObj F H r with
    | some (.cells ..) => False
    | some o => semq P F H (k o) K
    | none => False
  | .choose q k, K => if q.forced then semq P F H (k 0) K else False
  | .program k, K => semq P F H (k P) K
  | .mark _ k, K => semq P F H k K
  | _, _ => False

/-- H' tracks what H tracks. -/
def Hext (F : Base) (H H' : Hp) : Prop := ∀ b o, rdObj F H b = some o → rdObj F H' b = some o

theorem Hext.refl (F : Base) (H : Hp) : Hext F H H := fun _ _ h => h
theorem Hext.trans {F : Base} {A B C : Hp} (h : Hext F A B) (k : Hext F B C) : Hext F A C := fun b o e => k b o (h b o e)
theorem Hext.new {F : Base} {H : Hp} {b : Nat} {o : Obj} (h1 : ∀ e ∈ H, e.1 ≠ b) : Hext F H ((b, o) :: H) := by
  intro b' o' hr
  unfold rdObj at hr ⊢
  cases hF : F b' with
  | some o2 => rw [hF] at hr; exact hr
  | none =>
    rw [hF] at hr
    have hm := lk_mem hr
    have := h1 _ hm
    simp only [lk]
    rw [if_neg (fun e => this e.symm)]; exact hr

theorem semq_ext {α : Type} {P : Program} {F : Base} {H H' : Hp} (hx : Hext F H H') (s : Sem α) : ∀ (K : α → Prop), semq P F H s K → semq P F H' s K := by
  have hc : ∀ a v, cellOf (rdObj F H (Addr.block a)) a = some v → cellOf (rdObj F H' a.block) a = some v := fun a v h => by
    cases ho : rdObj F H a.block with
    | none => rw [ho] at h; cases h
    | some o => rw [hx _ _ ho]; rw [ho] at h; exact h
  induction s with
  | pure a => exact fun K h => h
  | load m a k ih =>
    intro K h; simp only [semq] at h ⊢; split at h
    · rename_i v hv; rw [hc _ _ hv]; exact ih _ _ h
    · exact h.elim
  | shape r k ih =>
    intro K h; simp only [semq] at h ⊢; split at h
    · rename_i o ho; rw [hx _ _ ho]; exact ih _ _ h
    · exact h.elim
  | frozen a k ih =>
    intro K h; simp only [semq] at h ⊢; split at h
    · rename_i o ho; rw [hx _ _ ho]; exact ih _ _ h
    · exact h.elim
  | getObj r k ih =>
    intro K h; simp only [semq] at h ⊢; split at h
    · exact h.elim
    · rename_i o hno ho
      rw [hx _ _ ho]
      cases o <;> first | exact ih _ _ h | exact (hno _ _ _ rfl).elim
    · exact h.elim
  | choose q k ih =>
    intro K h; simp only [semq] at h ⊢
    by_cases hq : q.forced = true
    · rw [if_pos hq] at h ⊢; exact ih _ _ h
    · rw [if_neg hq] at h; exact h.elim
  | program k ih => intro K h; simp only [semq] at h ⊢; exact ih _ _ h
  | mark m k ih => intro K h; simp only [semq] at h ⊢; exact ih _ h
  | _ => exact fun K h => h.elim

theorem sem_of_semq {α : Type} {P : Program} {F : Base} {H : Hp} (s : Sem α) : ∀ (K : α → Prop), semq P F H s K → sem P F s H (fun x H' => H' = H ∧ K x) := by
  induction s with
  | pure a => exact fun K h => ⟨rfl, h⟩
  | load m a k ih => intro K h; simp only [semq, sem] at h ⊢; split at h <;> first | (exact ih _ _ h) | (exact h.elim)
  | shape r k ih => intro K h; simp only [semq, sem] at h ⊢; split at h <;> first | (exact ih _ _ h) | (exact h.elim)
  | frozen a k ih => intro K h; simp only [semq, sem] at h ⊢; split at h <;> first | (exact ih _ _ h) | (exact h.elim)
  | getObj r k ih => intro K h; simp only [semq, sem] at h ⊢; split at h <;> first | (exact h.elim) | (exact ih _ _ h)
  | choose q k ih =>
    intro K h; simp only [semq, sem] at h ⊢
    by_cases hq : q.forced = true
    · rw [if_pos hq] at h ⊢; exact ih _ _ h
    · rw [if_neg hq] at h; exact h.elim
  | program k ih => intro K h; simp only [semq, sem] at h ⊢; exact ih _ _ h
  | mark m k ih => intro K h; simp only [semq, sem] at h ⊢; exact ih _ h
  | _ => exact fun K h => h.elim

theorem semq_mono {α : Type} {P : Program} {F : Base} {H : Hp} (s : Sem α) : ∀ (K K' : α → Prop), (∀ x, K x → K' x) → semq P F H s K → semq P F H s K' := by
  induction s with
  | pure a => exact fun K K' hk h => hk _ h
  | load m a k ih => intro K K' hk h; simp only [semq] at h ⊢; split at h <;> first | (exact ih _ _ _ hk h) | (exact h.elim)
  | shape r k ih => intro K K' hk h; simp only [semq] at h ⊢; split at h <;> first | (exact ih _ _ _ hk h) | (exact h.elim)
  | frozen a k ih => intro K K' hk h; simp only [semq] at h ⊢; split at h <;> first | (exact ih _ _ _ hk h) | (exact h.elim)
  | getObj r k ih => intro K K' hk h; simp only [semq] at h ⊢; split at h <;> first | (exact h.elim) | (exact ih _ _ _ hk h)
  | choose q k ih =>
    intro K K' hk h; simp only [semq] at h ⊢
    by_cases hq : q.forced = true
    · rw [if_pos hq] at h ⊢; exact ih _ _ _ hk h
    · rw [if_neg hq] at h; exact h.elim
  | program k ih => intro K K' hk h; simp only [semq] at h ⊢; exact ih _ _ _ hk h
  | mark m k ih => intro K K' hk h; simp only [semq] at h ⊢; exact ih _ _ hk h
  | _ => exact fun K K' hk h => h.elim

theorem semq_bind {α β : Type} {P : Program} {F : Base} {H : Hp} (s : Sem α) : ∀ (f : α → Sem β) (K : β → Prop), semq P F H (s >>= f) K ↔ semq P F H s (fun x => semq P F H (f x) K) := by
  show ∀ (f : α → Sem β) (K : β → Prop), semq P F H (s.bind f) K ↔ _
  induction s with
  | pure a => exact fun f K => Iff.rfl
  | load m a k ih => intro f K; simp only [semq, Sem.bind]; split <;> first | (exact ih _ _ _) | (exact Iff.rfl)
  | shape r k ih => intro f K; simp only [semq, Sem.bind]; split <;> first | (exact ih _ _ _) | (exact Iff.rfl)
  | frozen a k ih => intro f K; simp only [semq, Sem.bind]; split <;> first | (exact ih _ _ _) | (exact Iff.rfl)
  | getObj r k ih => intro f K; simp only [semq, Sem.bind]; split <;> first | (exact Iff.rfl) | (exact ih _ _ _)
  | choose q k ih => intro f K; simp only [semq, Sem.bind]; split <;> first | (exact ih _ _ _) | (exact Iff.rfl)
  | program k ih => intro f K; simp only [semq, Sem.bind]; exact ih _ _ _
  | mark m k ih => intro f K; simp only [semq, Sem.bind]; exact ih _ _
  | _ => exact fun f K => Iff.rfl

end Go.Eng
