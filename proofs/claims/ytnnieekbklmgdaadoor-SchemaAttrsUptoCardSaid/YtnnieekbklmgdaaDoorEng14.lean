/- The engine, part 14: memory that was there: opening data; purity under more memory. -/
import Derived.Test.YtnnieekbklmgdaaDoorEng13
import Derived.ChangeArms
namespace Go.Eng
open Go
theorem PureF.mono {P : Program} {F F' : Base} {fv : Value} {args : List Value} {v : Value} (h : PureF P F fv args v) (hF : ∀ b o, F b = some o → F' b = some o) : PureF P F' fv args v := by
  obtain ⟨f, fi, ca, h1, h2, h3⟩ := h
  exact ⟨f, fi, ca, h1, h2, h3.mono hF⟩
theorem PureF.up {P : Program} {F : Base} {fv : Value} {args : List Value} {v : Value} {H : Hp} (h : PureF P F fv args v) : PureF P (rdObj F H) fv args v :=
  h.mono fun _ _ hb => by simp [rdObj, hb]
theorem le_up {F : Base} {H : Hp} (b : Nat) (o : Obj) (h : F b = some o) : rdObj F H b = some o := by simp [rdObj, h]

/-- The i-th row of n cells behind an address, as it can be read in old memory. -/
def Cl (F : Base) (a : Option Addr) (n i : Nat) (cs : List Value) : Prop :=
  ∃ b off c T fz, a = some ⟨b, off, none⟩ ∧ F b = some (.cells c T fz) ∧ off + i * n + n ≤ c.size ∧ (c.toList.drop (off + i * n)).take n = cs
theorem Cl.mono {F F' : Base} {a : Option Addr} {n i : Nat} {cs : List Value} (h : Cl F a n i cs) (hF : ∀ b o, F b = some o → F' b = some o) : Cl F' a n i cs := by
  obtain ⟨b, off, c, T, fz, h1, h2, h3, h4⟩ := h
  exact ⟨b, off, c, T, fz, h1, hF _ _ h2, h3, h4⟩
theorem Cl.rd {F : Base} {a : Option Addr} {n i : Nat} {cs : List Value} (h : Cl F a n i cs) : ∃ b off, a = some ⟨b, off, none⟩ ∧ ∀ H, cellsAt F H b (off + i * n) n = some cs := by
  obtain ⟨b, off, c, T, fz, h1, h2, h3, h4⟩ := h
  refine ⟨b, off, h1, fun H => ?_⟩
  rw [cellsAt_O, rdObj_base h2]
  unfold cellsO
  simp only [h3, if_true, h4]
theorem Cl.len {F : Base} {a : Option Addr} {n i : Nat} {cs : List Value} (h : Cl F a n i cs) : cs.length = n := by
  obtain ⟨b, off, c, T, fz, h1, h2, h3, h4⟩ := h
  rw [← h4]; simp; omega
/-- Loading such a row: one cell, or several. -/
theorem Cl.ld1 {F : Base} {a : Option Addr} {i : Nat} {v : Value} (h : Cl F a 1 i [v]) : ∃ b off, a = some ⟨b, off, none⟩ ∧ ∀ H, ldV F H 1 false (.pointer (some ⟨b, off + i * 1, none⟩)) = some (True, v) := by
  obtain ⟨b, off, h1, h2⟩ := h.rd
  refine ⟨b, off, h1, fun H => ?_⟩
  rw [ldV_of, h2, ldC_one]; rfl
theorem Cl.ldn {F : Base} {a : Option Addr} {n i : Nat} {cs : List Value} (h : Cl F a n i cs) : ∃ b off, a = some ⟨b, off, none⟩ ∧ ∀ H, ldV F H n true (.pointer (some ⟨b, off + i * n, none⟩)) = some (True, .agg cs.toArray) := by
  obtain ⟨b, off, h1, h2⟩ := h.rd
  refine ⟨b, off, h1, fun H => ?_⟩
  rw [ldV_of, h2, ldC_agg]

/-- All of a row's parts. -/
theorem Cl.all {F : Base} {a : Option Addr} {n i : Nat} {cs : List Value} (h : Cl F a n i cs) : ∃ b off, a = some ⟨b, off, none⟩ ∧
    (∀ (o m : Nat), o + m ≤ n → ∀ H, ldV F H m true (.pointer (some ⟨b, off + i * n + o, none⟩)) = some (True, .agg ((cs.drop o).take m).toArray)) ∧
    (∀ (o : Nat), o + 1 ≤ n → ∀ H, ldV F H 1 false (.pointer (some ⟨b, off + i * n + o, none⟩)) = some (True, cs.getD o undef)) := by
  have hlen := h.len
  obtain ⟨b, off, c, T, fz, h1, h2, h3, h4⟩ := h
  have hc : ∀ (o m : Nat), o + m ≤ n → ∀ H, cellsAt F H b (off + i * n + o) m = some ((cs.drop o).take m) := fun o m hom H => by
    rw [cellsAt_O, rdObj_base h2]
    unfold cellsO
    have : off + i * n + o + m ≤ c.size := by omega
    simp only [this, if_true]
    rw [← h4, List.drop_take, List.take_take, List.drop_drop, show min m (n - o) = m by omega]
  refine ⟨b, off, h1, fun o m hom H => ?_, fun o ho H => ?_⟩
  · rw [ldV_of, hc o m hom H, ldC_agg]
  · rw [ldV_of, hc o 1 ho H, ldC_one]
    have : o < cs.length := by omega
    rw [List.drop_eq_getElem_cons this]
    simp [this]

/-! ### Opening what an argument reads as -/
theorem mapM_some {α β : Type} {f : α → Option β} : ∀ {l : List α} {r : List β}, l.mapM f = some r → ∀ x ∈ l, ∃ y, f x = some y := by
  intro l
  induction l with
  | nil => intro r _ x hx; cases hx
  | cons a l ih =>
    intro r h x hx
    rw [List.mapM_cons] at h
    cases ha : f a with
    | none => rw [ha] at h; cases h
    | some y =>
      rw [ha] at h
      cases hl : l.mapM f with
      | none => rw [hl] at h; cases h
      | some r' =>
        rcases List.mem_cons.mp hx with rfl | hx
        · exact ⟨y, ha⟩
        · exact ih hl x hx
theorem mapM_get {α β : Type} {f : α → Option β} : ∀ {l : List α} {r : List β}, l.mapM f = some r → r.length = l.length ∧ ∀ (i : Nat) (x : α), l[i]? = some x → ∃ y, f x = some y ∧ r[i]? = some y := by
  intro l
  induction l with
  | nil => intro r h; cases h; exact ⟨rfl, fun i x h => by simp at h⟩
  | cons a l ih =>
    intro r h
    rw [List.mapM_cons] at h
    cases ha : f a with
    | none => rw [ha] at h; cases h
    | some y =>
      rw [ha] at h
      cases hl : l.mapM f with
      | none => rw [hl] at h; cases h
      | some r' =>
        rw [hl] at h
        cases h
        obtain ⟨h1, h2⟩ := ih hl
        refine ⟨by simp [h1], fun i x hi => ?_⟩
        cases i with
        | zero => simp at hi; subst hi; exact ⟨y, ha, rfl⟩
        | succ i => exact h2 i x hi
theorem cells_Cl {w : World} {a : Addr} {n i : Nat} {cs : List Value} (hn : 0 < n) (h0 : a.spot = none) (h : w.cells? 0 (a.add (i * n)) n = some cs) : Cl (fun b => w.heap[b]?) (some a) n i cs := by
  obtain ⟨b, off, sp⟩ := a
  simp only at h0
  subst h0
  have ea : ∀ k, (⟨b, off, none⟩ : Addr).add k = ⟨b, off + k, none⟩ := fun k => by
    unfold Addr.add; split
    · rename_i h; subst h; rfl
    · rfl
  unfold World.cells? at h
  rw [if_pos (Nat.zero_le _), ea] at h
  have ea' : ∀ k, (⟨b, off + i * n, none⟩ : Addr).add k = ⟨b, off + i * n + k, none⟩ := fun k => by
    unfold Addr.add; split
    · rename_i h; subst h; rfl
    · rfl
  obtain ⟨hl, hg⟩ := mapM_get h
  simp only [List.length_range] at hl
  obtain ⟨v, hv, -⟩ := hg 0 0 (by rw [List.getElem?_range hn])
  rw [ea'] at hv
  unfold World.cell? at hv
  cases hb : w.heap[b]? with
  | none => simp only [hb] at hv; cases hv
  | some o =>
    cases o with
    | cells c T fz =>
      have hk : ∀ k, k < n → ∃ y, c[off + i * n + k]? = some y ∧ cs[k]? = some y := fun k hk => by
        obtain ⟨y, h1, h2⟩ := hg k k (by rw [List.getElem?_range hk])
        rw [ea'] at h1
        unfold World.cell? at h1
        simp only [hb, Option.isSome_none, Bool.false_eq_true, if_false] at h1
        exact ⟨y, h1, h2⟩
      have hsz : off + i * n + n ≤ c.size := by
        obtain ⟨y, h1, -⟩ := hk (n - 1) (by omega)
        have := (Array.getElem?_eq_some_iff.mp h1).1
        omega
      refine ⟨b, off, c, T, fz, rfl, hb, hsz, ?_⟩
      apply List.ext_getElem?
      intro k
      by_cases hkn : k < n
      · obtain ⟨y, h1, h2⟩ := hk k hkn
        rw [h2, List.getElem?_take_of_lt hkn, List.getElem?_drop]
        simpa using h1
      · rw [List.getElem?_eq_none (by simp; omega), List.getElem?_eq_none (by omega)]
    | _ => simp only [hb] at hv; cases hv

section
variable {H : Type} {enc : TypeId × Value → H} {P : Program} {w : World} {spare : Nat → Bool} {held : Bool}
theorem cells_spot {w : World} {a : Addr} {n : Nat} {cs : List Value} (hn : 0 < n) (h : w.cells? 0 (a.add 0) n = some cs) : a.spot = none := by
  have ea : a.add 0 = a := by simp [Addr.add]
  rw [ea] at h
  unfold World.cells? at h
  rw [if_pos (Nat.zero_le _)] at h
  obtain ⟨-, hg⟩ := mapM_get h
  obtain ⟨v, hv, -⟩ := hg 0 0 (by rw [List.getElem?_range hn])
  have ea' : a.add 0 = a := by simp [Addr.add]
  rw [ea'] at hv
  unfold World.cell? at hv
  cases hs : a.spot with
  | none => rfl
  | some k =>
    cases hb : w.heap[a.block]? with
    | none => simp only [hb] at hv; cases hv
    | some o => cases o <;> simp [hb, hs] at hv
theorem choose_list {α : Type} {p : Nat → α → Prop} : ∀ (n : Nat), (∀ i, i < n → ∃ x, p i x) → ∃ l : List α, l.length = n ∧ ∀ i x, l[i]? = some x → p i x
  | 0, _ => ⟨[], rfl, fun i x h => by simp at h⟩
  | n + 1, h => by
    obtain ⟨l, h1, h2⟩ := choose_list n fun i hi => h i (by omega)
    obtain ⟨y, hy⟩ := h n (by omega)
    refine ⟨l ++ [y], by simp [h1], fun i x hx => ?_⟩
    by_cases hi : i < n
    · rw [List.getElem?_append_left (by omega)] at hx; exact h2 i x hx
    · rw [List.getElem?_append_right (by omega)] at hx
      have : i - l.length = 0 := by
        have := (List.getElem?_eq_some_iff.mp hx).1
        simp at this; omega
      rw [this] at hx
      simp at hx; subst hx
      have : i = n := by omega
      subst this; exact hy
/-- A slice that an argument holds: its elements, each by what is said of every element. -/
theorem open_slice {α : Type} {R : List Value → α → Prop} {t e n fuel : Nat} {cs : List Value} {x : DataW H × List MemPlace} (ht : P.underlying t = some (.slice e)) (hn : P.cellsOf e = n) (hpos : 0 < n)
    (h : DataW.trod enc P w 0 spare held fuel t cs = some x) (hR : ∀ m cs' y, m < fuel → DataW.trod enc P w 0 spare held m e cs' = some y → ∃ z : α, R cs' z) :
    ∃ (a : Option Addr) (l : List α) (cap : Nat) (g : Nat → List Value), cs = [.slice a l.length cap] ∧ l.length ≤ maxLen ∧ l.length ≤ cap ∧ cap ≤ maxLen ∧ (∀ (i : Nat) (z : α), l[i]? = some z → Cl (fun b => w.heap[b]?) a n i (g i)) ∧ (∀ (i : Nat) (z : α), l[i]? = some z → R (g i) z) := by
  rcases DataW.trod_slice ht h with ⟨hc, _⟩ | ⟨a, len, cap, elems, rest, m, hf, hcs, _, _, hl, hm, hlen, hel, _⟩
  · exact ⟨none, [], 0, fun _ => [], hc, Nat.zero_le _, Nat.le_refl _, Nat.zero_le _, fun i z h => by simp at h, fun i z h => by simp at h⟩
  · rw [hn] at hel
    have hb : ∀ i, i < len → ∃ z : List Value × α, w.cells? 0 (a.add (i * n)) n = some z.1 ∧ R z.1 z.2 := fun i hi => by
      have h1 := hel i hi
      rw [List.getElem?_eq_getElem (by omega)] at h1
      cases hc : w.cells? 0 (a.add (i * n)) n with
      | none => rw [hc] at h1; cases h1
      | some cs' =>
        rw [hc] at h1
        obtain ⟨z, hz⟩ := hR m cs' _ (by omega) h1
        exact ⟨(cs', z), rfl, hz⟩
    obtain ⟨l, hl1, hl2⟩ := choose_list len hb
    have hsp : 0 < len → a.spot = none := fun h0 => by
      obtain ⟨z, hz, _⟩ := hb 0 h0
      rw [Nat.zero_mul] at hz
      exact cells_spot hpos hz
    refine ⟨some a, l.map (·.2), cap, fun i => ((l[i]?).map (·.1)).getD [], by rw [List.length_map, hl1]; exact hcs, by rw [List.length_map]; omega, by rw [List.length_map]; omega, hm, fun i z hz => ?_, fun i z hz => ?_⟩
    all_goals
      rw [List.getElem?_map] at hz
      cases hy : l[i]? with
      | none => rw [hy] at hz; cases hz
      | some y =>
        rw [hy] at hz
        simp only [Option.map_some, Option.some.injEq] at hz
        subst hz
        have hi : i < len := by rw [← hl1]; exact (List.getElem?_eq_some_iff.mp hy).1
        obtain ⟨h1, h2⟩ := hl2 i y hy
        simp only [hy, Option.map_some, Option.getD_some]
        first | exact cells_Cl hpos (hsp (by omega)) h1 | exact h2
end
end Go.Eng
