/- Layer 11: what is true of being below, of being the same, and of joins: plain. -/
import Derived.Test.YtnnieekbklmgdaaDoorTyE
namespace Go.Proofs.YtnnieekbklmgdaaDoor
open Go Go.Eng
open Int renaming reduceEq → Zaa, reduceToNat → Zaw, reduceLE → Zax, reduceLT → Zay, reduceAdd → Zaz, reduceSub → Za0, reduceNeg → Za1, reducePow → Za3, reduceNegSucc → Za5
open UInt8 renaming reduceOfNat → Zab
open Go.Eng renaming subG → Zac, lit → Zad, isPar → Zae, numb → Zaf, Wf → Zag, resV → Zah, oneCell → Zai, isB → Zaj, asB → Zak
open List renaming mapM_cons → Zal, mapM_nil → Zam
open Go.Value renaming cells → Zan
open Nat renaming reduceAdd → Zao, reduceMul → Zap, reduceMod → Zaq, reduceDiv → Zar, reduceEqDiff → Zas, reduceBEq → Zat, reduceLeDiff → Zau, reduceSub → Zav, reducePow → Za2, reduceLT → Za4
set_option linter.unusedSimpArgs false
set_option linter.unusedVariables false
set_option maxRecDepth 20000

theorem Ty.ind {motive : Ty → Prop} (h : ∀ k n es ats, (∀ x ∈ es, motive x) → (∀ x ∈ ats, motive x.2.1) → motive (.mk k n es ats)) : ∀ t, motive t
  | .mk k n es ats => h k n es ats (fun x hx => Ty.ind h x) (fun x hx => Ty.ind h x.2.1)
termination_by t => SizeOf.sizeOf t
decreasing_by
  · have := List.sizeOf_lt_of_mem hx; simp; omega
  · have h1 := List.sizeOf_lt_of_mem hx
    have h2 : SizeOf.sizeOf x.2.1 < SizeOf.sizeOf x := by obtain ⟨a, b, c⟩ := x; simp; omega
    simp; omega

section
variable {α : Type} {p q s : α → α → Bool}
theorem all2_congr : ∀ {l m : List α}, (∀ x ∈ l, ∀ y ∈ m, p x y = q x y) → all2 p l m = all2 q l m
  | [], [], _ => rfl
  | [], _ :: _, _ => rfl
  | _ :: _, [], _ => rfl
  | x :: l, y :: m, h => by
    rw [all2, all2, h x List.mem_cons_self y List.mem_cons_self, all2_congr fun a ha b hb => h a (List.mem_cons_of_mem _ ha) b (List.mem_cons_of_mem _ hb)]
theorem all2_refl : ∀ {l : List α}, (∀ x ∈ l, p x x = true) → all2 p l l = true
  | [], _ => rfl
  | x :: l, h => by rw [all2, h x List.mem_cons_self, all2_refl fun a ha => h a (List.mem_cons_of_mem _ ha)]; rfl
theorem all2_trans : ∀ {l m r : List α}, (∀ x ∈ l, ∀ y ∈ m, ∀ z ∈ r, p x y = true → q y z = true → s x z = true) → all2 p l m = true → all2 q m r = true → all2 s l r = true
  | [], [], [], _, _, _ => rfl
  | [], [], _ :: _, _, _, h => by simp [all2] at h
  | [], _ :: _, _, _, h, _ => by simp [all2] at h
  | _ :: _, [], _, _, h, _ => by simp [all2] at h
  | _ :: _, _ :: _, [], _, _, h => by simp [all2] at h
  | x :: l, y :: m, z :: r, h, h1, h2 => by
    rw [all2, Bool.and_eq_true] at h1 h2
    rw [all2, h x List.mem_cons_self y List.mem_cons_self z List.mem_cons_self h1.1 h2.1, Bool.true_and]
    exact all2_trans (fun a ha b hb c hc => h a (List.mem_cons_of_mem _ ha) b (List.mem_cons_of_mem _ hb) c (List.mem_cons_of_mem _ hc)) h1.2 h2.2
theorem all2_swap : ∀ {l m : List α}, all2 p l m = all2 (fun x y => p y x) m l
  | [], [] => rfl
  | [], _ :: _ => rfl
  | _ :: _, [] => rfl
  | x :: l, y :: m => by rw [all2, all2, all2_swap]
theorem all2_and : ∀ {l m : List α}, (all2 p l m && all2 q l m) = all2 (fun x y => p x y && q x y) l m
  | [], [] => rfl
  | [], _ :: _ => rfl
  | _ :: _, [] => rfl
  | x :: l, y :: m => by
    rw [all2, all2, all2, ← all2_and]
    cases p x y <;> cases q x y <;> cases all2 p l m <;> rfl
theorem all2_len : ∀ {l m : List α}, all2 p l m = true → l.length = m.length
  | [], [], _ => rfl
  | [], _ :: _, h => by simp [all2] at h
  | _ :: _, [], h => by simp [all2] at h
  | x :: l, y :: m, h => by
    rw [all2, Bool.and_eq_true] at h
    rw [List.length_cons, List.length_cons, all2_len h.2]
theorem all2_mono (hpq : ∀ x y, p x y = true → q x y = true) : ∀ {l m : List α}, all2 p l m = true → all2 q l m = true
  | [], [], _ => rfl
  | [], _ :: _, h => by simp [all2] at h
  | _ :: _, [], h => by simp [all2] at h
  | x :: l, y :: m, h => by
    rw [all2, Bool.and_eq_true] at h
    rw [all2, hpq x y h.1, all2_mono hpq h.2]; rfl
end

theorem same_refl : ∀ t, same t t = true := Ty.ind fun k n es ats h1 h2 => by
  rw [same, sameL_eq, sameA_eq, beq_self_eq_true, Bool.true_and]
  split
  · simp
  · split
    · exact all2_refl h1
    · split
      · exact all2_refl fun x hx => by simp [h2 x hx]
      · rfl
theorem same_symm : ∀ a b, same a b = same b a := Ty.ind fun k n es ats h1 h2 b => by
  obtain ⟨k', n', es', ats'⟩ := b
  rw [same, same, sameL_eq, sameA_eq, sameL_eq, sameA_eq]
  by_cases hk : k = k'
  · subst hk
    congr 1
    split
    · rw [Bool.eq_iff_iff, beq_iff_eq, beq_iff_eq]; exact eq_comm
    · split
      · rw [all2_swap]; exact all2_congr fun x hx y hy => h1 y hy x
      · split
        · rw [all2_swap]; exact all2_congr fun x hx y hy => by
            show (y.1 == x.1 && (y.2.2 == x.2.2 && same y.2.1 x.2.1)) = _
            rw [h2 y hy x.2.1, Bool.eq_iff_iff]
            simp only [Bool.and_eq_true, beq_iff_eq]
            exact ⟨fun h => ⟨h.1.symm, h.2.1.symm, h.2.2⟩, fun h => ⟨h.1.symm, h.2.1.symm, h.2.2⟩⟩
        · rfl
  · have e1 : (k == k') = false := by simpa using hk
    have e2 : (k' == k) = false := by simpa using fun e => hk e.symm
    rw [e1, e2]; rfl
theorem same_trans : ∀ a b c, same a b = true → same b c = true → same a c = true := Ty.ind fun k n es ats h1 h2 b c => by
  obtain ⟨k', n', es', ats'⟩ := b
  obtain ⟨k'', n'', es'', ats''⟩ := c
  rw [same, same, same, sameL_eq, sameA_eq, sameL_eq, sameA_eq, sameL_eq, sameA_eq, Bool.and_eq_true, Bool.and_eq_true, Bool.and_eq_true, beq_iff_eq, beq_iff_eq, beq_iff_eq]
  rintro ⟨rfl, h3⟩ ⟨rfl, h4⟩
  refine ⟨rfl, ?_⟩
  revert h3 h4
  split
  · simp only [beq_iff_eq]; exact fun a b => a.trans b
  · split
    · exact all2_trans fun x hx y hy z hz => h1 x hx y z
    · split
      · refine all2_trans fun x hx y hy z hz => ?_
        simp only [Bool.and_eq_true, beq_iff_eq]
        exact fun a b => ⟨a.1.trans b.1, a.2.1.trans b.2.1, h2 x hx _ _ a.2.2 b.2.2⟩
      · exact fun _ _ => rfl
theorem below_def (k : Int) (n : List UInt8) (es : List Ty) (ats : List At) (k' : Int) (n' : List UInt8) (es' : List Ty) (ats' : List At) : below (.mk k n es ats) (.mk k' n' es' ats') = true ↔
    k = 0 ∨ ((1 ≤ k ∧ k ≤ 3) ∧ k' = 3) ∨ (k = k' ∧ (k = 7 → all2 below es es' = true) ∧ (k = 8 → all2 (fun x y : At => x.1 == y.1 && ((y.2.2 || !x.2.2) && below x.2.1 y.2.1)) ats ats' = true) ∧ (k = 6 → n = n')) := by
  rw [below, belowL_eq, belowA_eq, same, sameL_eq, sameA_eq]
  by_cases h0 : k = 0
  · simp [h0]
  rw [if_neg h0]
  by_cases ht : (1 ≤ k ∧ k ≤ 3) ∧ k' = 3
  · rw [if_pos (by simp [ht])]; simp [ht]
  rw [if_neg (by simp only [Bool.and_eq_true, decide_eq_true_eq, beq_iff_eq]; exact ht)]
  by_cases hk : k = k'
  · subst hk
    rw [if_neg (by simp)]
    by_cases h7 : k = 7
    · subst h7; simp
    rw [if_neg h7]
    by_cases h8 : k = 8
    · subst h8; simp
    rw [if_neg h8]
    by_cases h6 : k = 6
    · subst h6; simp
    simp [h6, h7, h8, h0]
  · rw [if_pos (by simpa using hk)]
    simp [h0, hk]
    intro h1 h2 h3; exact ht ⟨⟨h1, h2⟩, h3⟩
theorem below_refl : ∀ t, below t t = true := Ty.ind fun k n es ats h1 h2 => by
  rw [below_def]
  exact .inr (.inr ⟨rfl, fun _ => all2_refl h1, fun _ => all2_refl fun x hx => by simp [h2 x hx], fun _ => rfl⟩)
theorem below_trans : ∀ a b c, below a b = true → below b c = true → below a c = true := Ty.ind fun k n es ats h1 h2 b c => by
  obtain ⟨k', n', es', ats'⟩ := b
  obtain ⟨k'', n'', es'', ats''⟩ := c
  rw [below_def, below_def, below_def]
  rintro (h | ⟨h3, h4⟩ | ⟨rfl, h4, h5, h6⟩)
  · exact fun _ => .inl h
  · rintro (h | ⟨h5, h6⟩ | ⟨rfl, h6, h7, h8⟩)
    · omega
    · exact .inr (.inl ⟨h3, h6⟩)
    · exact .inr (.inl ⟨h3, h4⟩)
  · rintro (h | ⟨h7, h8⟩ | ⟨rfl, h7, h8, h9⟩)
    · exact .inl h
    · exact .inr (.inl ⟨h7, h8⟩)
    · refine .inr (.inr ⟨rfl, fun e => all2_trans (fun x hx y hy z hz => h1 x hx y z) (h4 e) (h7 e), fun e => all2_trans (fun x hx y hy z hz => ?_) (h5 e) (h8 e), fun e => (h6 e).trans (h9 e)⟩)
      simp only [Bool.and_eq_true, beq_iff_eq, Bool.or_eq_true, Bool.not_eq_true']
      rintro ⟨a1, a2, a3⟩ ⟨b1, b2, b3⟩
      refine ⟨a1.trans b1, ?_, h2 x hx _ _ a3 b3⟩
      rcases a2 with a2 | a2
      · rcases b2 with b2 | b2
        · exact .inl b2
        · rw [a2] at b2; cases b2
      · exact .inr a2
theorem below_anti : ∀ a b, (below a b && below b a) = same a b := Ty.ind fun k n es ats h1 h2 b => by
  obtain ⟨k', n', es', ats'⟩ := b
  rw [Bool.eq_iff_iff, Bool.and_eq_true, below_def, below_def, same, sameL_eq, sameA_eq, Bool.and_eq_true, beq_iff_eq]
  have e7 : all2 below es es' = true ∧ all2 below es' es = true ↔ all2 same es es' = true := by
    rw [all2_swap (l := es'), ← Bool.and_eq_true, all2_and, all2_congr fun x hx y hy => h1 x hx y]
  have e8 : all2 (fun x y : At => x.1 == y.1 && ((y.2.2 || !x.2.2) && below x.2.1 y.2.1)) ats ats' = true ∧ all2 (fun x y : At => x.1 == y.1 && ((y.2.2 || !x.2.2) && below x.2.1 y.2.1)) ats' ats = true ↔
      all2 (fun x y : At => x.1 == y.1 && (x.2.2 == y.2.2 && same x.2.1 y.2.1)) ats ats' = true := by
    rw [all2_swap (l := ats'), ← Bool.and_eq_true, all2_and, all2_congr fun x hx y hy => ?_]
    show (x.1 == y.1 && ((y.2.2 || !x.2.2) && below x.2.1 y.2.1) && (y.1 == x.1 && ((x.2.2 || !y.2.2) && below y.2.1 x.2.1))) = (x.1 == y.1 && (x.2.2 == y.2.2 && same x.2.1 y.2.1))
    rw [← h2 x hx y.2.1, Bool.eq_iff_iff]
    have : (y.1 == x.1) = (x.1 == y.1) := by rw [Bool.eq_iff_iff, beq_iff_eq, beq_iff_eq]; exact eq_comm
    rw [this]
    cases x.2.2 <;> cases y.2.2 <;> cases (x.1 == y.1) <;> simp
  by_cases hk : k = k'
  · subst hk
    by_cases h6 : k = 6
    · subst h6; simp only [Int.reduceEq, false_and, false_or, Int.reduceLE, and_false, true_and, false_implies, forall_const, beq_iff_eq, if_true]
      exact ⟨fun h => h.1, fun h => ⟨h, h.symm⟩⟩
    by_cases h7 : k = 7
    · subst h7; simp [e7]
    by_cases h8 : k = 8
    · subst h8; simp [e8]
    simp [h6, h7, h8]
  · simp only [hk, false_and, or_false]
    constructor
    · rintro ⟨h3, h4⟩
      exfalso
      rcases h4 with h4 | h4 | ⟨h4, -⟩ <;> rcases h3 with h3 | h3 <;> omega
    · exact fun h => absurd h (by simp)
/-! ### The reference's -/
theorem may_kind {k : Int} {n : List UInt8} {es : List Ty} {ats : List At} (h : may (.mk k n es ats) = true) : 0 ≤ k ∧ k ≤ 8 := by
  rw [may] at h
  simp only [Bool.and_eq_true, Bool.not_eq_true', Bool.or_eq_false_iff, decide_eq_false_iff_not] at h
  omega
theorem rb_below : ∀ a b, may a = true → may b = true → rb a b = below a b := Ty.ind fun k n es ats h1 h2 b ma mb => by
  obtain ⟨k', n', es', ats'⟩ := b
  obtain ⟨m7, me, mt⟩ := may_elem ma
  obtain ⟨m7', me', mt'⟩ := may_elem mb
  obtain ⟨k0, k8⟩ := may_kind ma
  rw [Bool.eq_iff_iff, below_def, rb]
  have eA : (names ats ats' && rbA ats ats') = all2 (fun x y : At => x.1 == y.1 && ((y.2.2 || !x.2.2) && below x.2.1 y.2.1)) ats ats' := by
    rw [rbA_eq, names, all2_and]
    refine all2_congr fun x hx y hy => ?_
    obtain ⟨i, hi⟩ := List.mem_iff_getElem?.mp hx
    obtain ⟨j, hj⟩ := List.mem_iff_getElem?.mp hy
    rw [h2 x hx y.2.1 (mt i x hi) (mt' j y hj)]
    cases x.2.2 <;> cases y.2.2 <;> cases (x.1 == y.1) <;> simp
  by_cases h0 : k = 0
  · simp [h0]
  by_cases ht : (k = 1 ∨ k = 2) ∧ k' = 3
  · rw [if_pos (by simp [ht])]
    exact ⟨fun _ => .inr (.inl ⟨by omega, ht.2⟩), fun _ => rfl⟩
  rw [if_neg (by simp only [Bool.or_eq_true, Bool.and_eq_true, beq_iff_eq]; omega)]
  by_cases hk : k = k'
  · subst hk
    by_cases h6 : k = 6
    · subst h6; simp
    by_cases h7 : k = 7
    · subst h7
      obtain ⟨x, rfl⟩ := List.length_eq_one_iff.mp (m7 rfl)
      obtain ⟨y, rfl⟩ := List.length_eq_one_iff.mp (m7' rfl)
      rw [if_neg (by simp), if_pos rfl, rbH, h1 x List.mem_cons_self y (me 0 x rfl) (me' 0 y rfl)]
      simp [all2]
    by_cases h8 : k = 8
    · subst h8
      rw [if_neg (by simp), if_neg (by simp), if_neg (by simp), eA]; simp
    simp [h6, h7, h8]
  · rw [if_pos (by simp [hk])]
    simp only [hk, false_and, or_false, h0, false_or]
    constructor
    · intro h; cases h
    · rintro ⟨a, b⟩; omega
theorem rs_same (a b : Ty) (ma : may a = true) (mb : may b = true) : rs a b = same a b := by
  rw [rs, rb_below a b ma mb, rb_below b a mb ma, below_anti]
/-! ### Joins -/
mutual
def join : Ty → Ty → Option Ty
  | .mk k n es ats, .mk k' n' es' ats' =>
    if below (.mk k n es ats) (.mk k' n' es' ats') then some (.mk k' n' es' ats') else if below (.mk k' n' es' ats') (.mk k n es ats) then some (.mk k n es ats)
    else if (decide (1 ≤ k) && decide (k ≤ 3)) && (decide (1 ≤ k') && decide (k' ≤ 3)) then some (.mk 3 [] [] [])
    else if k = 7 ∧ k' = 7 ∧ es.length = 1 ∧ es'.length = 1 then (joinH es es').map fun t => .mk 7 [] [t] []
    else if k = 8 ∧ k' = 8 ∧ names ats ats' = true then (joinA ats ats').map fun l => .mk 8 [] [] l else none
def joinH : List Ty → List Ty → Option Ty
  | x :: _, y :: _ => join x y
  | _, _ => none
def joinA : List (List UInt8 × Ty × Bool) → List (List UInt8 × Ty × Bool) → Option (List (List UInt8 × Ty × Bool))
  | (n, t, o) :: l, (n', t', o') :: m => match join t t' with
    | none => none
    | some u => (joinA l m).map fun r => (n, u, o || o') :: r
  | _, _ => some []
end
/-- What a join is to be: the least above both, or there is none above both. -/
def Jn (a b : Ty) (o : Option Ty) : Prop := match o with
  | some t => below a t = true ∧ below b t = true ∧ (∀ c, below a c = true → below b c = true → below t c = true) ∧ may t = true
  | none => ∀ c, ¬(below a c = true ∧ below b c = true)
theorem ris_names : ∀ {l m : List At}, names l m = true → risA l = risA m
  | [], [], _ => rfl
  | [], _ :: _, h => by simp [names, all2] at h
  | _ :: _, [], h => by simp [names, all2] at h
  | [x], [y], _ => rfl
  | [x], _ :: _ :: _, h => by simp [names, all2] at h
  | _ :: _ :: _, [x], h => by simp [names, all2] at h
  | x :: x' :: l, y :: y' :: m, h => by
    have h' : names (x' :: l) (y' :: m) = true := by
      unfold names at h ⊢; rw [all2, Bool.and_eq_true] at h; exact h.2
    have e1 : x.1 = y.1 := by unfold names at h; rw [all2, Bool.and_eq_true, beq_iff_eq] at h; exact h.1
    have e2 : x'.1 = y'.1 := by unfold names at h'; rw [all2, Bool.and_eq_true, beq_iff_eq] at h'; exact h'.1
    rw [risA, risA, e1, e2, ris_names h']
abbrev bA : At → At → Bool := fun x y => x.1 == y.1 && ((y.2.2 || !x.2.2) && below x.2.1 y.2.1)
theorem joinA_spec : ∀ {l m : List At}, names l m = true → (∀ x ∈ l, ∀ y ∈ m, Jn x.2.1 y.2.1 (join x.2.1 y.2.1)) →
    match joinA l m with
    | some r => all2 bA l r = true ∧ all2 bA m r = true ∧ (∀ c, all2 bA l c = true → all2 bA m c = true → all2 bA r c = true) ∧ mayA r = true
    | none => ∀ c, ¬(all2 bA l c = true ∧ all2 bA m c = true)
  | [], [], _, _ => by
    have : joinA [] [] = some [] := by simp [joinA]
    rw [this]
    exact ⟨rfl, rfl, fun c h _ => h, rfl⟩
  | [], _ :: _, h, _ => by simp [names, all2] at h
  | _ :: _, [], h, _ => by simp [names, all2] at h
  | (n, t, o) :: l, (n', t', o') :: m, h, hj => by
    have h' : names l m = true := by unfold names at h ⊢; rw [all2, Bool.and_eq_true] at h; exact h.2
    have e1 : n = n' := by unfold names at h; rw [all2, Bool.and_eq_true, beq_iff_eq] at h; exact h.1
    subst e1
    have ih := joinA_spec h' fun x hx y hy => hj x (List.mem_cons_of_mem _ hx) y (List.mem_cons_of_mem _ hy)
    have j1 := hj _ List.mem_cons_self _ List.mem_cons_self
    simp only at j1
    rw [joinA]
    cases hjt : join t t' with
    | none =>
      rw [hjt] at j1
      simp only [Jn] at j1 ⊢
      rintro c ⟨h1, h2⟩
      cases c with
      | nil => simp [all2] at h1
      | cons z c =>
        rw [all2, Bool.and_eq_true] at h1 h2
        simp only [bA, Bool.and_eq_true] at h1 h2
        exact j1 _ ⟨h1.1.2.2, h2.1.2.2⟩
    | some u =>
      rw [hjt] at j1
      simp only [Jn] at j1 ⊢
      obtain ⟨j1, j2, j3, j4⟩ := j1
      cases hr : joinA l m with
      | none =>
        rw [hr] at ih
        simp only [Option.map_none] at ih ⊢
        rintro c ⟨h1, h2⟩
        cases c with
        | nil => simp [all2] at h1
        | cons z c =>
          rw [all2, Bool.and_eq_true] at h1 h2
          exact ih c ⟨h1.2, h2.2⟩
      | some r =>
        rw [hr] at ih
        simp only [Option.map_some] at ih ⊢
        obtain ⟨i1, i2, i3, i4⟩ := ih
        refine ⟨?_, ?_, fun c h1 h2 => ?_, ?_⟩
        · rw [all2, i1]; simp [j1]; cases o <;> simp
        · rw [all2, i2]; simp [j2]; cases o' <;> simp
        · cases c with
          | nil => simp [all2] at h1
          | cons z c =>
            rw [all2, Bool.and_eq_true] at h1 h2
            rw [all2, i3 c h1.2 h2.2, Bool.and_true]
            have h1 := h1.1
            have h2 := h2.1
            simp only [bA, Bool.and_eq_true] at h1 h2 ⊢
            refine ⟨h1.1, ?_, j3 _ h1.2.2 h2.2.2⟩
            have a := h1.2.1
            have b := h2.2.1
            revert a b
            cases z.2.2 <;> cases o <;> cases o' <;> simp
        · rw [mayA, j4, i4]; rfl
theorem join_spec : ∀ a b, may a = true → may b = true → Jn a b (join a b) := Ty.ind fun k n es ats h1 h2 b ma mb => by
  obtain ⟨k', n', es', ats'⟩ := b
  have ma0 := ma
  have mb0 := mb
  obtain ⟨m7, me, mt⟩ := may_elem ma
  obtain ⟨m7', me', mt'⟩ := may_elem mb
  obtain ⟨k0, k8⟩ := may_kind ma
  obtain ⟨k0', k8'⟩ := may_kind mb
  rw [join]
  split
  · rename_i h; exact ⟨h, below_refl _, fun c _ h => h, mb⟩
  rename_i nab
  split
  · rename_i h; exact ⟨below_refl _, h, fun c h _ => h, ma⟩
  rename_i nba
  have nab' := nab
  have nba' := nba
  rw [below_def] at nab nba
  by_cases hkk : k = k'
  · subst hkk
    by_cases hk7 : k = 7
    · subst hk7
      rw [if_neg (by simp), if_pos ⟨rfl, rfl, m7 rfl, m7' rfl⟩]
      obtain ⟨x, rfl⟩ := List.length_eq_one_iff.mp (m7 rfl)
      obtain ⟨y, rfl⟩ := List.length_eq_one_iff.mp (m7' rfl)
      have j := h1 x List.mem_cons_self y (me 0 x rfl) (me' 0 y rfl)
      rw [joinH]
      cases hj : join x y with
      | none =>
        rw [hj] at j
        rintro ⟨k'', n'', es'', ats''⟩ ⟨h3, h4⟩
        rw [below_def] at h3 h4
        have e3 : all2 below [x] es'' = true := by rcases h3 with h | ⟨h, _⟩ | ⟨_, h, _⟩ <;> first | omega | exact h rfl
        have e4 : all2 below [y] es'' = true := by rcases h4 with h | ⟨h, _⟩ | ⟨_, h, _⟩ <;> first | omega | exact h rfl
        obtain ⟨z, rfl⟩ := List.length_eq_one_iff.mp (all2_len e3).symm
        simp only [all2, Bool.and_true] at e3 e4
        exact j z ⟨e3, e4⟩
      | some u =>
        rw [hj] at j
        obtain ⟨j1, j2, j3, j4⟩ := j
        refine ⟨?_, ?_, ?_, ?_⟩
        · rw [below_def]; exact .inr (.inr ⟨rfl, fun _ => by simp [all2, j1], fun h => by simp at h, fun h => by simp at h⟩)
        · rw [below_def]; exact .inr (.inr ⟨rfl, fun _ => by simp [all2, j2], fun h => by simp at h, fun h => by simp at h⟩)
        · rintro ⟨k'', n'', es'', ats''⟩ h3 h4
          rw [below_def] at h3 h4
          rcases h3 with h | ⟨h, _⟩ | ⟨rfl, h3, _⟩
          · omega
          · omega
          rcases h4 with h | ⟨h, _⟩ | ⟨_, h4, _⟩
          · omega
          · omega
          have e3 := h3 rfl
          have e4 := h4 rfl
          obtain ⟨z, rfl⟩ := List.length_eq_one_iff.mp (all2_len e3).symm
          simp only [all2, Bool.and_true] at e3 e4
          rw [below_def]; exact .inr (.inr ⟨rfl, fun _ => by simp [all2, j3 z e3 e4], fun h => by simp at h, fun h => by simp at h⟩)
        · simp [may, mayL, mayA, risA, j4]
    by_cases hk8 : k = 8
    · subst hk8
      rw [if_neg (by simp), if_neg (by simp)]
      by_cases hn : names ats ats' = true
      · rw [if_pos ⟨rfl, rfl, hn⟩]
        have j := joinA_spec hn fun x hx y hy => by
          obtain ⟨i, hi⟩ := List.mem_iff_getElem?.mp hx
          obtain ⟨l, hl⟩ := List.mem_iff_getElem?.mp hy
          exact h2 x hx y.2.1 (mt i x hi) (mt' l y hl)
        cases hj : joinA ats ats' with
        | none =>
          rw [hj] at j
          rintro ⟨k'', n'', es'', ats''⟩ ⟨h3, h4⟩
          rw [below_def] at h3 h4
          have e3 : all2 bA ats ats'' = true := by rcases h3 with h | ⟨h, _⟩ | ⟨_, _, h, _⟩ <;> first | omega | exact h rfl
          have e4 : all2 bA ats' ats'' = true := by rcases h4 with h | ⟨h, _⟩ | ⟨_, _, h, _⟩ <;> first | omega | exact h rfl
          exact j _ ⟨e3, e4⟩
        | some r =>
          rw [hj] at j
          obtain ⟨j1, j2, j3, j4⟩ := j
          refine ⟨?_, ?_, ?_, ?_⟩
          · rw [below_def]; exact .inr (.inr ⟨rfl, fun h => by simp at h, fun _ => j1, fun h => by simp at h⟩)
          · rw [below_def]; exact .inr (.inr ⟨rfl, fun h => by simp at h, fun _ => j2, fun h => by simp at h⟩)
          · rintro ⟨k'', n'', es'', ats''⟩ h3 h4
            rw [below_def] at h3 h4
            rcases h3 with h | ⟨h, _⟩ | ⟨rfl, _, h3, _⟩
            · omega
            · omega
            rcases h4 with h | ⟨h, _⟩ | ⟨_, _, h4, _⟩
            · omega
            · omega
            rw [below_def]; exact .inr (.inr ⟨rfl, fun h => by simp at h, fun _ => j3 _ (h3 rfl) (h4 rfl), fun h => by simp at h⟩)
          · have hr : risA r = risA ats := (ris_names (all2_mono (fun x y h => by simp only [Bool.and_eq_true] at h; exact h.1) j1)).symm
            have : risA ats = true := by
              rw [may] at ma0; simp only [Bool.and_eq_true] at ma0; exact ma0.2.1.1
            simp [may, mayL, hr, this, j4]
      · rw [if_neg (by simp [hn])]
        rintro ⟨k'', n'', es'', ats''⟩ ⟨h3, h4⟩
        rw [below_def] at h3 h4
        have e3 : all2 bA ats ats'' = true := by rcases h3 with h | ⟨h, _⟩ | ⟨_, _, h, _⟩ <;> first | omega | exact h rfl
        have e4 : all2 bA ats' ats'' = true := by rcases h4 with h | ⟨h, _⟩ | ⟨_, _, h, _⟩ <;> first | omega | exact h rfl
        apply hn
        rw [all2_swap] at e4
        exact all2_trans (fun x hx y hy z hz a b => by
          simp only [bA, Bool.and_eq_true, beq_iff_eq] at a b ⊢
          exact a.1.trans b.1.symm) e3 e4
    · -- the same kind, neither a set nor a record: only names may differ
      have h6 : k = 6 ∧ n ≠ n' := by
        by_cases h6 : k = 6
        · exact ⟨h6, fun e => nab (.inr (.inr ⟨rfl, fun h => absurd h hk7, fun h => absurd h hk8, fun _ => e⟩))⟩
        · exact absurd (.inr (.inr ⟨rfl, fun h => absurd h hk7, fun h => absurd h hk8, fun h => absurd h h6⟩)) nab
      obtain ⟨rfl, hn⟩ := h6
      rw [if_neg (by simp), if_neg (by simp), if_neg (by simp)]
      rintro ⟨k'', n'', es'', ats''⟩ ⟨h3, h4⟩
      rw [below_def] at h3 h4
      have e3 : n = n'' := by rcases h3 with h | ⟨h, _⟩ | ⟨_, _, _, h⟩ <;> first | omega | exact h rfl
      have e4 : n' = n'' := by rcases h4 with h | ⟨h, _⟩ | ⟨_, _, _, h⟩ <;> first | omega | exact h rfl
      exact hn (e3.trans e4.symm)
  · have hk0 : k ≠ 0 := fun h => nab (.inl h)
    have hk0' : k' ≠ 0 := fun h => nba (.inl h)
    by_cases ht : (1 ≤ k ∧ k ≤ 3) ∧ (1 ≤ k' ∧ k' ≤ 3)
    · rw [if_pos (by simp [ht])]
      refine ⟨?_, ?_, ?_, by simp [may, mayL, mayA, risA]⟩
      · rw [below_def]; exact .inr (.inl ⟨ht.1, rfl⟩)
      · rw [below_def]; exact .inr (.inl ⟨ht.2, rfl⟩)
      · rintro ⟨k'', n'', es'', ats''⟩ h3 h4
        rw [below_def] at h3 h4 ⊢
        refine .inr (.inl ⟨by omega, ?_⟩)
        rcases h3 with h | ⟨_, h⟩ | ⟨e, _⟩
        · omega
        · exact h
        · rcases h4 with h | ⟨_, h⟩ | ⟨e', _⟩
          · omega
          · exact h
          · omega
    · rw [if_neg (by simp only [Bool.and_eq_true, decide_eq_true_eq]; omega), if_neg (by omega), if_neg (by omega)]
      rintro ⟨k'', n'', es'', ats''⟩ ⟨h3, h4⟩
      rw [below_def] at h3 h4
      rcases h3 with h | ⟨h, h'⟩ | ⟨e, _⟩
      · omega
      · rcases h4 with h4 | ⟨h4, h4'⟩ | ⟨e', _⟩ <;> omega
      · rcases h4 with h4 | ⟨h4, h4'⟩ | ⟨e', _⟩ <;> omega
theorem join_some {a b t : Ty} (ma : may a = true) (mb : may b = true) (h : join a b = some t) : below a t = true ∧ below b t = true ∧ (∀ c, below a c = true → below b c = true → below t c = true) ∧ may t = true := by
  have := join_spec a b ma mb; rw [h] at this; exact this
theorem join_none {a b : Ty} (ma : may a = true) (mb : may b = true) (h : join a b = none) : ∀ c, ¬(below a c = true ∧ below b c = true) := by
  have := join_spec a b ma mb; rw [h] at this; exact this
theorem join_comm_none {a b : Ty} (ma : may a = true) (mb : may b = true) : join a b = none ↔ join b a = none := by
  constructor
  · intro h
    cases hb : join b a with
    | none => rfl
    | some u =>
      obtain ⟨h1, h2, _⟩ := join_some mb ma hb
      exact absurd ⟨h2, h1⟩ (join_none ma mb h u)
  · intro h
    cases hb : join a b with
    | none => rfl
    | some u =>
      obtain ⟨h1, h2, _⟩ := join_some ma mb hb
      exact absurd ⟨h2, h1⟩ (join_none mb ma h u)
theorem join_comm {a b t u : Ty} (ma : may a = true) (mb : may b = true) (h : join a b = some t) (h' : join b a = some u) : same t u = true := by
  obtain ⟨h1, h2, h3, _⟩ := join_some ma mb h
  obtain ⟨g1, g2, g3, _⟩ := join_some mb ma h'
  rw [← below_anti, h3 u g2 g1, g3 t h2 h1]; rfl
end Go.Proofs.YtnnieekbklmgdaaDoor
