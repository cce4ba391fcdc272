/- The engine, part 15: contracts that make or turn memory; a row that grows. -/
import Derived.Test.YtnnieekbklmgdaaDoorEng14
namespace Go.Eng
open Go

/-- Called where F's blocks read as they do and H0's are its own: it gives K; of what else was there nothing turns. -/
def Does (P : Program) (F : Base) (f : FuncId) (args : Array Value) (H0 : Hp) (K : Value → Hp → Prop) : Prop := ∀ w1, (∀ b o, F b = some o → w1.heap[b]? = some o) → CallG P (H0.map (·.1)) F w1 f args H0 K

theorem lk_append {A B : Hp} {b : Nat} : lk (A ++ B) b = match lk A b with | some o => some o | none => lk B b := by
  induction A with
  | nil => rfl
  | cons e r ih =>
    obtain ⟨b', o'⟩ := e
    simp only [List.cons_append, lk]
    split
    · rfl
    · exact ih
theorem lk_none {H : Hp} {b : Nat} (h : ∀ e ∈ H, e.1 ≠ b) : lk H b = none := by
  cases hl : lk H b with
  | none => rfl
  | some o => exact absurd rfl (h _ (lk_mem hl))
theorem lk_not {H : Hp} {b : Nat} (h : lk H b = none) : ∀ e ∈ H, e.1 ≠ b := by
  induction H with
  | nil => intro e he; cases he
  | cons x r ih =>
    obtain ⟨b', o'⟩ := x
    simp only [lk] at h
    split at h
    · cases h
    · rename_i hne
      intro e he
      rcases List.mem_cons.1 he with he | he
      · subst he; exact hne
      · exact ih h e he
theorem rd_none {F : Base} {H : Hp} {b : Nat} (h : rdObj F H b = none) : F b = none ∧ lk H b = none := by
  unfold rdObj at h
  cases hF : F b with
  | none => rw [hF] at h; exact ⟨rfl, h⟩
  | some o => rw [hF] at h; cases h

theorem CallG.frame {P : Program} {X : List Nat} {F F1 : Base} {w0 : World} {f : FuncId} {args : Array Value} {H H0 Hr : Hp} {K0 K : Value → Hp → Prop} (h : Does P F1 f args H0 K0)
    (hF : ∀ b o, F1 b = some o → rdObj F Hr b = some o) (h0 : ∀ e ∈ H0, e ∈ H) (hr : ∀ e ∈ Hr, e ∈ H) (hd : ∀ e' ∈ Hr, ∀ e ∈ H0, e.1 ≠ e'.1)
    (hk : ∀ v H', K0 v H' → (∀ e ∈ H', F e.1 = none) → (∀ e' ∈ Hr, ∀ e ∈ H', e.1 ≠ e'.1) → (∀ b o, rdObj F1 H' b = some o → rdObj F (Hr ++ H') b = some o) → K v (Hr ++ H')) :
    CallG P X F w0 f args H K := by
  intro w hs
  have hs1 : Sat (H0.map (·.1)) (rdObj F Hr) w H0 w := by
    refine ⟨rfl, rfl, rfl, Nat.le_refl _, fun b o hb => ?_, fun e he => hs.own e (h0 e he), fun e he => ?_, fun e he => .inl (List.mem_map_of_mem he), fun _ _ _ => rfl⟩
    · unfold rdObj at hb
      cases hb' : F b with
      | some o' => rw [hb'] at hb; simp only [Option.some.injEq] at hb; subst hb; exact hs.base b _ hb'
      | none => rw [hb'] at hb; exact hs.own _ (hr _ (lk_mem hb))
    · unfold rdObj; rw [hs.apart e (h0 e he)]
      exact lk_none fun e' he' => (hd e' he' e he).symm
  have hs2 : Sat (H0.map (·.1)) F1 w H0 w := by
    refine ⟨rfl, rfl, rfl, Nat.le_refl _, fun b o hb => hs1.base b o (hF b o hb), hs1.own, fun e he => ?_, hs1.fresh, fun _ _ _ => rfl⟩
    cases hb : F1 e.1 with
    | none => rfl
    | some o => have := hF _ _ hb; rw [hs1.apart e he] at this; cases this
  refine (h w hs2.base w hs2).mono ?_
  rintro e w' ⟨v, H', he, hs', hK⟩
  -- what is new, or own, is apart from the rest
  have hap : ∀ e ∈ H', rdObj F Hr e.1 = none := fun e he => by
    rcases hs'.fresh e he with h1 | h1
    · obtain ⟨e0, h2, h3⟩ := List.mem_map.1 h1
      rw [← h3]; exact hs1.apart e0 h2
    · cases hb : rdObj F Hr e.1 with
      | none => rfl
      | some o =>
        have := hs1.base _ _ hb
        rw [Array.getElem?_eq_none h1] at this; cases this
  have h1 : ∀ e ∈ H', F e.1 = none := fun e he => (rd_none (hap e he)).1
  have h2 : ∀ e' ∈ Hr, ∀ e ∈ H', e.1 ≠ e'.1 := fun e' he' e he => (lk_not (rd_none (hap e he)).2 e' he').symm
  have hold : ∀ b o, rdObj F Hr b = some o → w'.heap[b]? = some o := fun b o hb => by
    have hb' := hs1.base b o hb
    have hlt : b < w.heap.size := by
      rcases Nat.lt_or_ge b w.heap.size with h | h
      · exact h
      · rw [Array.getElem?_eq_none h] at hb'; cases hb'
    rw [hs'.old b hlt (fun hm => by
      obtain ⟨e0, h2, h3⟩ := List.mem_map.1 hm
      have := hs1.apart e0 h2
      rw [h3, hb] at this; cases this)]
    exact hb'
  have hown : ∀ e ∈ Hr, w'.heap[e.1]? = some e.2 := fun e he => by
    have := hs.apart e (hr e he)
    cases hl : lk Hr e.1 with
    | none => exact absurd rfl (lk_not hl e he)
    | some o =>
      have hb : rdObj F Hr e.1 = some o := by unfold rdObj; rw [this]; exact hl
      have e1 := hold _ _ hb
      have e2 := hs.own _ (hr _ (lk_mem hl))
      have e3 := hs.own _ (hr e he)
      rw [e1, ← e3, ← e2]
  refine ⟨v, Hr ++ H', he, ⟨hs'.os.trans hs.os, hs'.tape.trans hs.tape, hs'.output.trans hs.output, Nat.le_trans hs.size hs'.size, fun b o hb => hold b o (by unfold rdObj; rw [hb]), fun e he => ?_, fun e he => ?_, fun e he => ?_, fun k hk hX => ?_⟩, hk v H' hK h1 h2 fun b o hb => ?_⟩
  · rcases List.mem_append.1 he with he | he
    · exact hown e he
    · exact hs'.own e he
  · rcases List.mem_append.1 he with he | he
    · exact hs.apart e (hr e he)
    · exact h1 e he
  · rcases List.mem_append.1 he with he | he
    · exact hs.fresh e (hr e he)
    · rcases hs'.fresh e he with h | h
      · obtain ⟨e0, h2, h3⟩ := List.mem_map.1 h
        rw [← h3]; exact hs.fresh e0 (h0 e0 h2)
      · exact .inr (Nat.le_trans hs.size h)
  · rw [hs'.old k (Nat.lt_of_lt_of_le hk hs.size) (fun hm => by
      obtain ⟨e0, h2, h3⟩ := List.mem_map.1 hm
      rcases hs.fresh e0 (h0 e0 h2) with h | h
      · exact hX (h3 ▸ h)
      · exact absurd h (by rw [h3]; omega))]
    exact hs.old k hk hX
  · unfold rdObj at hb
    cases hF1 : F1 b with
    | some o' =>
      rw [hF1] at hb
      simp only [Option.some.injEq] at hb
      subst hb
      have := hF _ _ hF1
      unfold rdObj at this ⊢
      cases hFb : F b with
      | some o2 => rw [hFb] at this; exact this
      | none => rw [hFb] at this; simp only at this ⊢; rw [lk_append, this]
    | none =>
      rw [hF1] at hb
      have hm := lk_mem hb
      unfold rdObj
      rw [h1 _ hm]
      simp only
      rw [lk_append, lk_none fun e' he' => (h2 e' he' _ hm).symm]
      exact hb

theorem CallE.does {P : Program} {X : List Nat} {F F1 : Base} {w0 : World} {f : FuncId} {args : Array Value} {H : Hp} {K0 K : Value → Hp → Prop} (H0 Hr : Hp) (h : Does P F1 f args H0 K0)
    (hF : ∀ b o, F1 b = some o → rdObj F Hr b = some o) (h0 : ∀ e ∈ H0, e ∈ H) (hr : ∀ e ∈ Hr, e ∈ H) (hd : ∀ e' ∈ Hr, ∀ e ∈ H0, e.1 ≠ e'.1)
    (hk : ∀ v H', K0 v H' → (∀ e ∈ H', F e.1 = none) → (∀ e' ∈ Hr, ∀ e ∈ H', e.1 ≠ e'.1) → (∀ b o, rdObj F1 H' b = some o → rdObj F (Hr ++ H') b = some o) → K v (Hr ++ H')) :
    @CallE P X F w0 f args H ⟨K⟩ := CallG.frame h hF h0 hr hd hk
theorem CallEF.does {P : Program} {X : List Nat} {F F1 : Base} {w0 : World} {f : FuncId} {fi ca : Array Value} {args : List Value} {H : Hp} {K0 K : Value → Hp → Prop} (H0 Hr : Hp) (hc : callable P f = true) (h : Does P F1 f (fi ++ args.toArray ++ ca) H0 K0)
    (hF : ∀ b o, F1 b = some o → rdObj F Hr b = some o) (h0 : ∀ e ∈ H0, e ∈ H) (hr : ∀ e ∈ Hr, e ∈ H) (hd : ∀ e' ∈ Hr, ∀ e ∈ H0, e.1 ≠ e'.1)
    (hk : ∀ v H', K0 v H' → (∀ e ∈ H', F e.1 = none) → (∀ e' ∈ Hr, ∀ e ∈ H', e.1 ≠ e'.1) → (∀ b o, rdObj F1 H' b = some o → rdObj F (Hr ++ H') b = some o) → K v (Hr ++ H')) :
    @CallEF P X F w0 (.func (.func f) fi ca) args H ⟨K⟩ := ⟨f, fi, ca, rfl, hc, CallG.frame h hF h0 hr hd hk⟩
/-- A contract that makes new memory alone, called anywhere. -/
theorem CallE.news {P : Program} {X : List Nat} {F : Base} {w0 : World} {f : FuncId} {args : Array Value} {H : Hp} {K0 K : Value → Hp → Prop} (h : Does P (rdObj F H) f args [] K0)
    (hk : ∀ v H', K0 v H' → (∀ e ∈ H', F e.1 = none) → (∀ e' ∈ H, ∀ e ∈ H', e.1 ≠ e'.1) → (∀ b o, rdObj (rdObj F H) H' b = some o → rdObj F (H ++ H') b = some o) → K v (H ++ H')) :
    @CallE P X F w0 f args H ⟨K⟩ := CallG.frame h (fun _ _ h => h) (fun e he => by cases he) (fun e he => he) (fun e' _ e he => by cases he) hk
theorem hext_app {F : Base} {H H' : Hp} : Hext F H (H ++ H') := by
  intro b o h
  unfold rdObj at *
  cases hF : F b with
  | some o' => rw [hF] at h; exact h
  | none =>
    rw [hF] at h
    simp only at h ⊢
    rw [lk_append, h]
theorem CallN.news {P : Program} {X : List Nat} {F : Base} {w0 : World} {f : FuncId} {args : Array Value} {H : Hp} {K0 K : Value → Hp → Prop} (h : Does P (rdObj F H) f args [] K0)
    (hk : ∀ v H', K0 v H' → (∀ e ∈ H', F e.1 = none) → (∀ e' ∈ H, ∀ e ∈ H', e.1 ≠ e'.1) → (∀ b o, rdObj (rdObj F H) H' b = some o → rdObj F (H ++ H') b = some o) → K v (H ++ H')) :
    @CallN P X F w0 f args H ⟨K⟩ := CallG.frame h (fun _ _ h => h) (fun e he => by cases he) (fun e he => he) (fun e' _ e he => by cases he) (fun v H' a b c d => ⟨hext_app, hk v H' a b c d⟩)
theorem Does.mono {P : Program} {F : Base} {f : FuncId} {args : Array Value} {H0 : Hp} {K K' : Value → Hp → Prop} (h : Does P F f args H0 K) (hk : ∀ v H, K v H → K' v H) : Does P F f args H0 K' := fun w1 hw => CallG.mono (h w1 hw) hk
theorem Does.of_pure {P : Program} {F : Base} {f : FuncId} {args : Array Value} {v : Value} (h : PureV P F f args v) : Does P F f args [] fun v' H => v' = v ∧ H = [] := fun _ _ => CallG.of_pure h ⟨rfl, rfl⟩
theorem does_of_svc {P : Program} {ov : List Nat} {F : Base} {f : Nat} {fn : Func} {fu : Fun} {args : List Value} {H0 : Hp} {K : Value → Hp → Prop} (hm : P.follows .mixedOrders = true) (hf : P.funcs[f]? = some fn) (hl : lowF P ov fn = some fu) (hn : args.length ≤ fu.n)
    (h : ∀ w0, (∀ b o, F b = some o → w0.heap[b]? = some o) → svc P (H0.map (·.1)) F w0 fu.n fu.c (numb 0 args) H0 (fin F fu.rv K)) : Does P F f args.toArray H0 K := fun w1 hw => callG_of_svc hm hf hl hn (h w1 hw)
theorem pureV_of_svcW {P : Program} {ov : List Nat} {F : Base} {f : Nat} {fn : Func} {fu : Fun} {args : List Value} {v : Value} (hm : P.follows .mixedOrders = true) (hf : P.funcs[f]? = some fn) (hl : lowF P ov fn = some fu) (hn : args.length ≤ fu.n)
    (h : ∀ w0, (∀ b o, F b = some o → w0.heap[b]? = some o) → svc P [] F w0 fu.n fu.c (numb 0 args) [] (fin F fu.rv fun v' _ => v' = v)) : PureV P F f args.toArray v := by
  intro w hw
  have hs : Sat [] F w [] w := ⟨rfl, rfl, rfl, Nat.le_refl _, hw, by simp, by simp, by simp, fun _ _ _ => rfl⟩
  refine (callG_of_svc hm hf hl hn (h w hw) w hs).mono ?_
  rintro e w' ⟨v', H', rfl, hs', rfl⟩
  exact ⟨rfl, hs'.os, hs'.tape, hs'.output, hs'.size, fun k hk => hs'.old k hk (by simp)⟩

/-! ### A row that grows -/
/-- A row of own cells: none yet, or a block of its own with cells to spare. -/
inductive OwnS (F : Base) (n T : Nat) : List Value → Nat → Value → Hp → Prop
  | nil : OwnS F n T [] 0 (.slice none 0 0) []
  | own (b cap : Nat) (sp l : List Value) (len : Nat) (hF : F b = none) (hl : l.length = len * n) (hs : sp.length = (cap - len) * n) (hc : len ≤ cap) (hm : cap ≤ 9223372036854775807) : OwnS F n T l len (.slice (some ⟨b, 0, none⟩) len cap) [(b, .cells (l ++ sp).toArray T (0, 0))]
theorem OwnS.lk {F : Base} {n T : Nat} {l : List Value} {len : Nat} {v : Value} {Ho : Hp} (h : OwnS F n T l len v Ho) (A : Hp) (hd : ∀ e' ∈ A, ∀ e ∈ Ho, e.1 ≠ e'.1) : ∀ e ∈ Ho, Eng.lk (A ++ Ho) e.1 = some e.2 := by
  intro e he
  rw [lk_append, lk_none fun e' he' => (hd e' he' e he).symm]
  simp only
  cases h with
  | nil => cases he
  | own b cap sp l len hF hl hs hc hcm =>
    simp only [List.mem_singleton] at he
    subst he
    simp [Eng.lk]
theorem OwnS.mono {F : Base} {n T : Nat} {l : List Value} {len : Nat} {v : Value} {Ho : Hp} (h : OwnS F n T l len v Ho) {F' : Base} (hF : ∀ e ∈ Ho, F' e.1 = none) : OwnS F' n T l len v Ho := by
  cases h with
  | nil => exact .nil
  | own b cap sp l len hF0 hl hs hc hcm => exact .own b cap sp l len (hF _ (List.mem_singleton.2 rfl)) hl hs hc hcm
theorem CallG.shr {P : Program} {X : List Nat} {F : Base} {w0 : World} {f : FuncId} {args : Array Value} {H : Hp} {K K' : Value → Hp → Prop} (h : CallG P X F w0 f args H K) (hk : ∀ v H', K v H' → ∃ Hc, (∀ e ∈ Hc, e ∈ H') ∧ K' v Hc) : CallG P X F w0 f args H K' :=
  fun w hs => (h w hs).mono fun _ _ ⟨v, H', he, hs', hK⟩ => by
    obtain ⟨Hc, h1, h2⟩ := hk v H' hK
    exact ⟨v, Hc, he, hs'.less h1, h2⟩
theorem Does.shr {P : Program} {F : Base} {f : FuncId} {args : Array Value} {H0 : Hp} {K K' : Value → Hp → Prop} (h : Does P F f args H0 K) (hk : ∀ v H', K v H' → ∃ Hc, (∀ e ∈ Hc, e ∈ H') ∧ K' v Hc) : Does P F f args H0 K' := fun w1 hw => CallG.shr (h w1 hw) hk
theorem mem_upd_ne {H : Hp} {b : Nat} {o : Obj} {e : Nat × Obj} (h : e ∈ H) (hne : e.1 ≠ b) : e ∈ upd H b o := by
  induction H with
  | nil => cases h
  | cons x r ih =>
    obtain ⟨b', o'⟩ := x
    simp only [upd]
    rcases List.mem_cons.1 h with h | h
    · subst h; simp only at hne; rw [if_neg hne]; simp
    · split <;> exact List.mem_cons_of_mem _ (ih h)
theorem rowsOf_sl {F : Base} {H : Hp} {n b off m c : Nat} : rowsOf F H n (.slice (some ⟨b, off, none⟩) m c) = orZ m ((cellsAt F H b off (m * n)).map fun l => (m, l)) := rfl
theorem orZ_some {m : Nat} {x : Nat × List Value} : orZ m (some x) = some x := rfl
theorem rowsOf_str {F : Base} {H : Hp} {s : ByteArray} : rowsOf F H 1 (.string s) = some (s.data.toList.length, byteCells s.data.toList) := rfl
theorem rowsOf_nil {F : Base} {H : Hp} {n c : Nat} : rowsOf F H n (.slice none 0 c) = some (0, []) := rfl
theorem EfL.grow {F : Base} {H Hr Ho : Hp} {n B T len m : Nat} {l nw : List Value} {x y : Value} {K : Value → Hp → Prop} (ho : OwnS F n T l len x Ho) (hH : ∀ e ∈ Ho, lk H e.1 = some e.2) (hr : ∀ e ∈ Hr, e ∈ H) (hd : ∀ e' ∈ Hr, ∀ e ∈ Ho, e.1 ≠ e'.1)
    (hy : rowsOf F H n y = some (m, nw)) (hn : nw.length = m * n) (h1 : ∀ v ∈ nw, oneCell v = true) (hm : nw ≠ []) (hb : (2 * (len + m) + 192) * B ≤ 281474976710656)
    (hk : ∀ b cap sp, sp.length = (cap - (len + m)) * n → len + m ≤ cap → cap ≤ 9223372036854775807 → F b = none → (∀ e ∈ Hr, e.1 ≠ b) → K (.slice (some ⟨b, 0, none⟩) (len + m) cap) ((b, .cells (l ++ nw ++ sp).toArray T (0, 0)) :: Hr)) :
    @EfL F H (.app n B T) [x, y] ⟨K⟩ := by
  refine EfL.of ?_
  have hnw : m ≠ 0 := fun e => by subst e; simp at hn; exact hm hn
  show appP F H n B T x y (shrK K)
  unfold appP
  cases ho with
  | nil =>
    simp only [hy]
    refine ⟨fun h => absurd h (by omega), fun _ => ⟨hb, ?_⟩⟩
    unfold appNew oldOf
    intro k sp hsp hkm b hb1 hb2
    refine ⟨(b, .cells ([] ++ nw ++ sp).toArray T (0, 0)) :: Hr, fun e he => ?_, hk b (0 + m + k) sp (by rw [hsp]; congr 1; omega) (by omega) hkm hb2 fun e he => hb1 e (hr e he)⟩
    rcases List.mem_cons.1 he with he | he
    · subst he; exact List.mem_cons_self
    · exact List.mem_cons_of_mem _ (hr e he)
  | own b cap sp l len hF hl hs hc hcm =>
    simp only [hy]
    have hlk : lk H b = some (.cells (l ++ sp).toArray T (0, 0)) := hH _ (List.mem_singleton.2 rfl)
    have hdb : ∀ e ∈ Hr, e.1 ≠ b := fun e he => (hd e he _ (List.mem_singleton.2 rfl)).symm
    have hsz : (l ++ sp).length = cap * n := by
      rw [List.length_append, hl, hs, ← Nat.add_mul]; congr 1; omega
    refine ⟨fun hle => ?_, fun _ => ⟨hb, ?_⟩⟩
    · have hmn : len * n + m * n ≤ cap * n := by rw [← Nat.add_mul]; exact Nat.mul_le_mul_right _ hle
      have hst : stCells F H b (0 + len * n) nw = some (upd H b (.cells (l ++ nw ++ sp.drop (m * n)).toArray T (0, 0))) := by
        rw [stCells_O hF, hlk, stO_of]
        have hc1 : (nw.all oneCell && !nw.isEmpty && decide (0 + len * n + nw.length ≤ (l ++ sp).length)) = true := by
          simp only [Bool.and_eq_true, List.all_eq_true, Bool.not_eq_true', List.isEmpty_eq_false_iff, decide_eq_true_eq]
          exact ⟨⟨h1, hm⟩, by rw [hsz, hn]; omega⟩
        rw [if_pos hc1]
        simp only [Option.map_some]
        congr 4
        have e1 : List.take (0 + len * n) (l ++ sp) = l := by rw [Nat.zero_add, ← hl]; exact List.take_left' rfl
        have e2 : List.drop (0 + len * n + nw.length) (l ++ sp) = sp.drop (m * n) := by
          rw [Nat.zero_add, ← hl, hn, List.drop_append, List.drop_eq_nil_of_le (by omega)]
          simp
        rw [e1, e2]
      unfold appIn
      cases nw with
      | nil => exact absurd rfl hm
      | cons v0 nw0 =>
        simp only
        rw [hst]
        refine ⟨(b, .cells (l ++ v0 :: nw0 ++ sp.drop (m * n)).toArray T (0, 0)) :: Hr, fun e he => ?_, hk b cap _ ?_ hle hcm hF hdb⟩
        · rcases List.mem_cons.1 he with he | he
          · subst he
            exact lk_mem (lk_upd (by rw [hlk]; simp))
          · exact mem_upd_ne (hr e he) (hdb e he)
        · rw [List.length_drop, hs, ← Nat.sub_mul]; congr 1; omega
    · unfold appNew oldOf
      have hc0 : cellsAt F H b 0 (len * n) = some l := by
        rw [cellsAt_O, rdObj_own hF, hlk, cellsO_of, if_pos (by rw [hsz, Nat.zero_add]; exact Nat.mul_le_mul_right _ hc), List.drop_zero, ← hl, List.take_left' rfl]
      simp only [hc0]
      intro k sp' hsp hkm b' hb1 hb2
      refine ⟨(b', .cells (l ++ nw ++ sp').toArray T (0, 0)) :: Hr, fun e he => ?_, hk b' (len + m + k) sp' (by rw [hsp]; congr 1; omega) (by omega) hkm hb2 fun e he => hb1 e (hr e he)⟩
      rcases List.mem_cons.1 he with he | he
      · subst he; exact List.mem_cons_self
      · exact List.mem_cons_of_mem _ (hr e he)
theorem EfL.zero {F : Base} {H : Hp} {n B T len cap : Nat} {base : Option Addr} {y : Value} {K : Value → Hp → Prop} (hy : rowsOf F H n y = some (0, [])) (hc : len ≤ cap) (hk : K (.slice base len cap) H) : @EfL F H (.app n B T) [.slice base len cap, y] ⟨K⟩ := by
  refine EfL.of ?_
  show appP F H n B T _ y (shrK K)
  unfold appP
  simp only [hy]
  refine ⟨fun _ => ?_, fun h => absurd h (by omega)⟩
  unfold appIn
  exact ⟨H, fun _ h => h, hk⟩
/-! ### Maps -/
theorem EfL.mkMap {F : Base} {H : Hp} {K : Value → Hp → Prop} (h : ∀ b, (∀ e ∈ H, e.1 ≠ b) → F b = none → K (.map (some b)) ((b, .map #[] 0) :: H)) : @EfL F H .mkMap [] ⟨K⟩ :=
  EfL.of fun b h1 h2 => ⟨_, fun _ he => he, h b h1 h2⟩
theorem EfL.get {F : Base} {H : Hp} {d : TypeDesc} {z m k : Value} {ok : Bool} {es : List MapEntry} {r : Option (Nat × Value)} {K : Value → Hp → Prop} (hm : mapEs F H m = some es) (hf : Instr.findNow d k es 0 = some r) (h : K (getV z ok r) H) :
    @EfL F H (.mapGet d z ok) [m, k] ⟨K⟩ := by
  refine EfL.of ?_
  simp only [efP, hm, hf]
  exact ⟨H, fun _ he => he, h⟩
/-- The entries of a map that holds these texts, each true. -/
def entL : List (List UInt8) → Nat → List MapEntry
  | [], _ => []
  | k :: r, i => { key := .string (bs k), val := .bool true, born := i } :: entL r (i + 1)
def MapK (ks : List (List UInt8)) : Obj := .map (entL ks 0).toArray ks.length
theorem entL_app : ∀ (ks l : List (List UInt8)) (i : Nat), entL (ks ++ l) i = entL ks i ++ entL l (i + ks.length)
  | [], l, i => by simp [entL]
  | k :: r, l, i => by
    have e : i + (r.length + 1) = i + 1 + r.length := by omega
    simp only [List.cons_append, entL, entL_app r l (i + 1), List.length_cons, e]
theorem bs_beq (k x : List UInt8) : (bs k == bs x) = (k == x) := by
  show ((bs k).data == (bs x).data) = (k == x)
  simp [bs]
theorem findNow_entL (k : List UInt8) : ∀ (ks : List (List UInt8)) (i j : Nat), Instr.findNow .string (.string (bs k)) (entL ks i) j = some (if k ∈ ks then some (j + ks.idxOf k, .bool true) else none)
  | [], i, j => by simp [entL, Instr.findNow]
  | x :: r, i, j => by
    have hs : Instr.sameNow .string (.string (bs k)) (.string (bs x)) = some (k == x) := by rw [← bs_beq]; rfl
    rw [entL, Instr.findNow, hs]
    by_cases h : k = x
    · subst h
      simp
    · have hb : (k == x) = false := by simpa using h
      have h' : ¬ x = k := fun e => h e.symm
      rw [hb]
      simp only
      rw [findNow_entL k r (i + 1) (j + 1)]
      by_cases hm : k ∈ r
      · have : (x :: r).idxOf k = r.idxOf k + 1 := by
          have hxk : (x == k) = false := by simpa using h'
          rw [List.idxOf_cons, hxk]; rfl
        have e : j + 1 + r.idxOf k = j + (r.idxOf k + 1) := by omega
        simp only [hm, if_true, List.mem_cons, or_true, this, e]
      · simp [hm, h]
theorem EfL.setK {F : Base} {H : Hp} {b : Nat} {ks : List (List UInt8)} {k : List UInt8} {K : Value → Hp → Prop} (hF : F b = none) (hl : lk H b = some (MapK ks)) (hk : k ∉ ks) (h : K undef (upd H b (MapK (ks ++ [k])))) :
    @EfL F H (.mapSet .string) [.map (some b), .string (bs k), .bool true] ⟨K⟩ := by
  refine EfL.of ?_
  simp only [efP, setP, hF, hl]
  unfold MapK
  simp only [findNow_entL, hk, if_false]
  refine ⟨_, fun _ he => he, ?_⟩
  have e : (entL ks 0).toArray.push { key := .string (bs k), val := .bool true, born := ks.length } = (entL (ks ++ [k]) 0).toArray := by
    rw [entL_app]; simp [entL]
  rw [e]
  have e2 : ks.length + 1 = (ks ++ [k]).length := by simp
  rw [e2]
  exact h
theorem EfL.getK {F : Base} {H : Hp} {b : Nat} {ks : List (List UInt8)} {k : List UInt8} {K : Value → Hp → Prop} (hF : F b = none) (hl : lk H b = some (MapK ks)) (h : K (.bool (decide (k ∈ ks))) H) :
    @EfL F H (.mapGet .string (.bool false) false) [.map (some b), .string (bs k)] ⟨K⟩ := by
  have hm : mapEs F H (.map (some b)) = some (entL ks 0) := by
    have h0 : rdObj F H b = some (MapK ks) := by unfold rdObj; rw [hF]; exact hl
    simp only [mapEs, h0, MapK]
  refine EfL.get hm (findNow_entL k ks 0 0) ?_
  by_cases hk : k ∈ ks
  · simp only [hk, if_true, getV, Bool.false_eq_true, if_false]; simpa [hk] using h
  · simp only [hk, if_false, getV, Bool.false_eq_true]; simpa [hk] using h
/-- Rows of no length add nothing. -/
theorem rowsOf_zero {F : Base} {H : Hp} {n c : Nat} {a : Option Addr} : ∃ l, rowsOf F H n (.slice a 0 c) = some (0, l) := by
  rcases a with _ | ⟨b, off, _ | s⟩
  · exact ⟨_, rfl⟩
  · rw [rowsOf_sl]
    cases cellsAt F H b off (0 * n) with
    | none => exact ⟨[], rfl⟩
    | some l => exact ⟨l, rfl⟩
  · exact ⟨_, rfl⟩
theorem OwnS.len_le {F : Base} {n T : Nat} {l : List Value} {len : Nat} {v : Value} {Ho : Hp} (h : OwnS F n T l len v Ho) : ∃ base cap, v = .slice base len cap ∧ len ≤ cap := by
  cases h with
  | nil => exact ⟨none, 0, rfl, Nat.le_refl _⟩
  | own b cap sp l len hF hl hs hc hcm => exact ⟨_, cap, rfl, hc⟩
theorem OwnS.out {F : Base} {n T : Nat} {l : List Value} {len : Nat} {v : Value} {Ho : Hp} (h : OwnS F n T l len v Ho) : (l = [] ∧ len = 0 ∧ v = .slice none 0 0 ∧ Ho = []) ∨
    ∃ b cap sp, v = .slice (some ⟨b, 0, none⟩) len cap ∧ Ho = [(b, .cells (l ++ sp).toArray T (0, 0))] ∧ F b = none ∧ l.length = len * n ∧ sp.length = (cap - len) * n ∧ len ≤ cap ∧ cap ≤ 9223372036854775807 := by
  cases h with
  | nil => exact .inl ⟨rfl, rfl, rfl, rfl⟩
  | own b cap sp l len hF hl hs hc hcm => exact .inr ⟨b, cap, sp, rfl, rfl, hF, hl, hs, hc, hcm⟩
theorem OwnS.hle {F : Base} {n T : Nat} {l : List Value} {len : Nat} {v : Value} {Ho : Hp} (h : OwnS F n T l len v Ho) (A : Hp) (hd : ∀ e' ∈ A, ∀ e ∈ Ho, e.1 ≠ e'.1) : HLe Ho (A ++ Ho) := by
  have hl := h.lk A hd
  rcases h.out with ⟨-, -, -, rfl⟩ | ⟨b, cap, sp, -, rfl, -⟩
  · trivial
  · exact ⟨hl _ (List.mem_singleton.2 rfl), trivial⟩
theorem OwnS.mk {F : Base} {n T : Nat} {l cs : List Value} {len len2 b cap : Nat} (sp : List Value) (hF : F b = none) (hcs : cs = l ++ sp) (hlen : len2 = len) (hl : l.length = len * n) (hs : sp.length = (cap - len) * n) (hc : len ≤ cap) (hm : cap ≤ 9223372036854775807) :
    OwnS F n T l len (.slice (some ⟨b, 0, none⟩) len2 cap) [(b, .cells cs.toArray T (0, 0))] := by
  subst hcs hlen; exact .own b cap sp l _ hF hl hs hc hm
theorem own_rdB {l : List UInt8} {sp : List Value} {T : Nat} {fz : Nat × Nat} : cellsO (some (.cells (byteCells l ++ sp).toArray T fz)) 0 l.length = some (byteCells l) := by
  rw [cellsO_of, if_pos (by rw [List.length_append, byteCells_len]; omega), List.drop_zero, List.take_left' (byteCells_len l)]
theorem take_bytes {l : List UInt8} {m : List Value} : (byteCells l ++ m).take l.length = byteCells l := List.take_left' (byteCells_len l)
/-- A contract that makes memory holds over more of it, too. -/
theorem Does.up {P : Program} {F F' : Base} {f : FuncId} {args : Array Value} {K : Value → Hp → Prop} (h : Does P F f args [] K) (hF : ∀ b o, F b = some o → F' b = some o) : Does P F' f args [] K := fun w1 hw =>
  CallG.frame (Hr := []) h (fun b o hb => by unfold rdObj; rw [hF b o hb]) (fun e he => by cases he) (fun e he => by cases he) (fun e he => by cases he) (fun v H' hK _ _ _ => by simpa using hK)
end Go.Eng
