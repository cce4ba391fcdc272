/- The engine, part 10: one symbolic step; regions; code; calls. -/
import Derived.Test.YtnnieekbklmgdaaDoorEng9
namespace Go.Eng
open Go

section
variable {P : Program} {o : Oper}

theorem low_alloc {T : Nat} {z : List Value} (h : low P o = some (.alloc T z)) : o.op = .alloc T ∧ ∃ v, zeroO P T = some v ∧ v.cells.toList = z := by
  unfold low at h
  repeat' split at h
  all_goals simp only [Option.some.injEq, reduceCtorEq, Option.map_eq_some_iff, S.alloc.injEq, and_false, exists_false] at h
  all_goals try (rename_i hop; obtain ⟨v, hv, rfl, hz⟩ := h; exact ⟨hop, v, hv, hz⟩)

theorem low_box {T : Nat} {x : X} (h : low P o = some (.box T x)) : ∃ y, o.op = .box T y ∧ X.of y = x := by
  unfold low at h
  repeat' split at h
  all_goals simp only [Option.some.injEq, reduceCtorEq, Option.map_eq_some_iff, S.box.injEq, and_false, exists_false] at h
  all_goals try (rename_i hop; obtain ⟨rfl, hz⟩ := h; exact ⟨_, hop, hz⟩)

theorem low_store {n : Nat} {x y : X} (h : low P o = some (.store n x y)) : ∃ t x' y', o.op = .store t x' y' ∧ szO P t = some n ∧ X.of x' = x ∧ X.of y' = y := by
  unfold low at h
  repeat' split at h
  all_goals simp only [Option.some.injEq, reduceCtorEq, Option.map_eq_some_iff, S.store.injEq, and_false, exists_false] at h
  all_goals try (rename_i hop; obtain ⟨m, hm, rfl, h1, h2⟩ := h; exact ⟨_, _, _, hop, hm, h1, h2⟩)

theorem low_raw {oo : Oper} (h : low P o = some (.raw oo)) : oo = o := by
  unfold low at h
  repeat' split at h
  all_goals simp only [Option.some.injEq, reduceCtorEq, Option.map_eq_some_iff, S.raw.injEq, and_false, exists_false] at h
  all_goals try exact h.symm

theorem low_call {f : Nat} {xs : List X} (h : low P o = some (.call f xs)) : ∃ c, o.op = .call c ∧ c.callee = .value (.func f) ∧ c.args.toList.map X.of = xs ∧ callable P f = true := by
  unfold low at h
  repeat' split at h
  all_goals simp only [Option.some.injEq, reduceCtorEq, Option.map_eq_some_iff, S.call.injEq, and_false, exists_false] at h
  all_goals try (rename_i hop _ _ hc _ _ hfn hb; obtain ⟨rfl, h2⟩ := h; exact ⟨_, hop, hc, h2, by unfold callable; rw [hfn]; exact hb⟩)

theorem low_callV {x : X} {xs : List X} (h : low P o = some (.callV x xs)) : ∃ c y, o.op = .call c ∧ c.callee = .value y ∧ X.of y = x ∧ c.args.toList.map X.of = xs := by
  unfold low at h
  repeat' split at h
  all_goals simp only [Option.some.injEq, reduceCtorEq, Option.map_eq_some_iff, S.callV.injEq, and_false, exists_false] at h
  all_goals try (rename_i hop _ _ _ hc; obtain ⟨h1, h2⟩ := h; exact ⟨_, _, hop, hc, h1, h2⟩)

theorem low_sbytes {T : Nat} {x : X} (h : low P o = some (.sbytes T x)) : ∃ s d y, o.op = .convert s d y ∧ P.underlying s = some .string ∧ P.underlying d = some (.slice T) ∧ P.underlying T = some (.int .u8) ∧ X.of y = x := by
  unfold low at h
  repeat' split at h
  all_goals simp only [Option.some.injEq, reduceCtorEq, Option.map_eq_some_iff, S.sbytes.injEq, and_false, exists_false] at h
  all_goals try (rename_i hop _ _ _ hs hd _ he; obtain ⟨rfl, h2⟩ := h; exact ⟨_, _, _, hop, hs, hd, he, h2⟩)

theorem low_xcall {f : Nat} {xs : List X} (h : low P o = some (.xcall f xs)) : ∃ c, o.op = .call c ∧ c.callee = .value (.func f) ∧ c.args.toList.map X.of = xs := by
  unfold low at h
  repeat' split at h
  all_goals simp only [Option.some.injEq, reduceCtorEq, Option.map_eq_some_iff, S.xcall.injEq, and_false, exists_false] at h
  all_goals try (rename_i hop _ _ hc _ _ hfn hb; obtain ⟨rfl, h2⟩ := h; exact ⟨_, hop, hc, h2⟩)

theorem low_ef {e : Ef} {xs : List X} (h : low P o = some (.ef e xs)) : IsEf P o e xs := by
  unfold low at h
  repeat' split at h
  all_goals simp only [Option.some.injEq, reduceCtorEq, Option.map_eq_some_iff, S.ef.injEq, and_false, exists_false] at h
  all_goals first
    | (rename_i hop _ hc _ _ _ _ ht; obtain ⟨rfl, rfl⟩ := h; exact .app _ _ _ _ hop hc ht)
    | (rename_i hop _ _ _ _ _ ht; obtain ⟨rfl, rfl⟩ := h; exact .mkSl _ _ _ _ _ _ _ hop ht)
    | (rename_i hop; obtain ⟨rfl, rfl⟩ := h; exact .mkMap _ hop)
    | (rename_i hop _ _ _ hu _ _ _ _ hk hz hd; obtain ⟨rfl, rfl⟩ := h; exact .mapGet _ _ _ _ _ _ _ _ hop hu hk hd hz)
    | (rename_i hop _ _ _ hu _ _ hk hd; obtain ⟨rfl, rfl⟩ := h; exact .mapSet _ _ _ _ _ _ _ hop hu hk hd)

theorem low_bslice {T len : Nat} {z : List Value} {l : List (Nat × Nat × X)} (h : low P o = some (.bslice T len z l)) : ∃ t ps n v, o.op = .buildSlice t len ps ∧ P.underlying t = some (.slice T) ∧ szO P T = some n ∧ zeroO P T = some v ∧
    n ≠ 0 ∧ len ≠ 0 ∧ len * n ≤ 1000 ∧ partsO (fun i => some (i * n, n)) ps.toList = some l ∧ z = (List.range (len * n)).map (fun i => v.cells[i % v.cells.size]!) := by
  unfold low at h
  repeat' split at h
  all_goals simp only [Option.some.injEq, reduceCtorEq, Option.map_eq_some_iff, S.bslice.injEq, and_false, exists_false] at h
  all_goals try (rename_i hop _ _ hu _ _ _ _ hn hz hc; obtain ⟨l', hl, rfl, rfl, h1, rfl⟩ := h; simp only [Bool.or_eq_true, decide_eq_true_eq, not_or] at hc; exact ⟨_, _, _, _, hop, hu, hn, hz, hc.1.1, hc.1.2, by omega, hl, h1.symm⟩)
end

section
variable {P : Program} {X₀ : List Nat} {F : Base} {w0 : World} {N : Nat} {ops : Array Oper} {draw : Bool} {ex : Nat} {U : Fr} {C : Cf} {H : Hp} {a : Act} {o : Oper} {so : SO}

theorem kindS_call {gd : Bool} {s : S} (h : (∃ f args, s = .call f args) ∨ ∃ x args, s = .callV x args) : kindS draw ex gd s ≠ .p := by
  rcases h with ⟨f, args, rfl⟩ | ⟨x, args, rfl⟩ <;>
  · simp only [kindS]
    split
    · simp
    · split
      · simp
      · split <;> simp
theorem kindS_ne {gd : Bool} {s : S} (h : (match s with | .alloc .. | .box .. | .bslice .. | .store .. | .raw _ => true | _ => false) = true) : kindS draw ex gd s ≠ .q := by
  cases s <;> simp at h <;> simp [kindS] <;> split <;> simp

theorem allocP_sem {ob : Obj} {kk : Value → Hp → Prop} {k : Kind} {vf : Nat → Value} {s : Sem Next} (h : allocP F H ob fun b H' => kk (vf b) H')
    (hs : (∀ b, (∀ e ∈ H, e.1 ≠ b) → F b = none → rawK P X₀ F w0 (fun v H' => (k = .g → Hext F H H') ∧ kk v H') (.value (vf b)) ((b, ob) :: H)) → sem P F s H (rawK P X₀ F w0 fun v H' => (k = .g → Hext F H H') ∧ kk v H')) :
    sem P F s H (rawK P X₀ F w0 fun v H' => (k = .g → Hext F H H') ∧ kk v H') :=
  hs fun b h1 h2 => ⟨fun _ => Hext.new h1, h b h1 h2⟩

theorem stp_sound (hl : lowO P N ops draw ex o = some so) (hf : FOk N U C a) {next : Fr → Cf → Hp → Prop} (h : stp P X₀ F w0 N so U C H next) :
    if Region.wanted o (yielded ops a.tmps) then kop P X₀ F w0 so.k o (Kr N next) a H else Kr N next (a.put o.dst undef) H := by
  unfold lowO at hl
  split at hl
  case h_2 => cases hl
  rename_i s g hlow hg
  split at hl
  case isFalse => cases hl
  rename_i hd
  simp only [Option.some.injEq] at hl
  subst hl
  -- the quiet rule
  have quiet : ∀ (_ : kindS draw ex g.isSome s = .q) (ob : Prop) (v : Value), (om a (chain C g) → Gives P F H a o v ∨ Qt P F o a H v) → wr o.dst (chain C g) v U C (fun U C => next U C H) →
      if Region.wanted o (yielded ops a.tmps) then kop P X₀ F w0 (kindS draw ex g.isSome s) o (Kr N next) a H else Kr N next (a.put o.dst undef) H := fun hk ob v hv hw => by
    split
    · rename_i hwt
      have ho := (wanted_om hf hg).1 hwt
      rw [hk]
      rcases hv ho with h1 | h1
      · exact kop_q_of h1 (wr_yes hf hd ho hw)
      · exact ⟨v, h1, wr_yes hf hd ho hw⟩
    · rename_i hwt
      have ho : ¬ om a (chain C g) := fun h => hwt ((wanted_om hf hg).2 h)
      exact wr_no hf hd (fun e => ho (by rw [e]; intro l hl; cases hl)) ho hw
  have plain : ∀ (_ : kindS draw ex g.isSome s = .q ∨ (kindS draw ex g.isSome s = .p ∧ ∀ (H' : Hp) (r rT rF : X → Option Value), qev F H' r rT rF s = qev F H r rT rF s)), (match qev F H (rd U C (chain C g)) (rd U C (lit (pickC s) 1 ++ chain C g)) (rd U C (lit (pickC s) 0 ++ chain C g)) s with
      | some (ob, v) => (Wf U C (chain C g) (chain C g) → ob) ∧ wr o.dst (chain C g) v U C (fun U C => next U C H)
      | none => False) → if Region.wanted o (yielded ops a.tmps) then kop P X₀ F w0 (kindS draw ex g.isSome s) o (Kr N next) a H else Kr N next (a.put o.dst undef) H := fun hk hh => by
    split at hh
    case h_2 => exact hh.elim
    rename_i ob v hq
    rcases hk with hk | ⟨hk, hany⟩
    · exact quiet hk ob v (fun ho => .inl (low_quiet (so := ⟨o.dst, s, g, kindS draw ex g.isSome s⟩) hlow hf ho (hh.1 (hf.wf ho ho)) hq)) hh.2
    · split
      · rename_i hwt
        have ho := (wanted_om hf hg).1 hwt
        rw [hk]
        refine ⟨v, fun H' => ?_, wr_yes hf hd ho hh.2⟩
        exact semq_mono _ _ _ (fun n hn => by rw [hn]; exact rfl) (low_quiet (so := ⟨o.dst, s, g, kindS draw ex g.isSome s⟩) hlow hf ho (hh.1 (hf.wf ho ho)) ((hany H' _ _ _).trans hq))
      · rename_i hwt
        have ho : ¬ om a (chain C g) := fun h => hwt ((wanted_om hf hg).2 h)
        exact wr_no hf hd (fun e => ho (by rw [e]; intro l hl; cases hl)) ho hh.2
  cases s with
  | call f args =>
    obtain ⟨c, hop, hc, hargs, hcall⟩ := low_call hlow
    simp only [stp] at h
    split at h
    case h_2 => exact h.elim
    rename_i vs hvs
    have hev : om a (chain C g) → execOp a.eval o = callFunc f vs.toArray := fun ho => by
      rw [exec_call hop hc, rds_map hf ho (by rw [hargs]; exact hvs)]
    split at h
    · rename_i hk
      obtain ⟨v, h1, h2⟩ := h
      refine quiet hk True v (fun ho => .inr ?_) h2
      unfold Qt
      rw [hev ho]
      exact (semq_callFunc hcall _).2 (h1 (hf.wf ho ho))
    · rename_i hk
      refine cnd_sound hg hf hd (fun ho kk hr => .inr ?_) (by rw [hk]; simp) (by rw [hk]; simp) h
      rw [hev ho]
      refine sem_callFunc hcall _ ?_
      exact CallG.mono hr fun v H' hv => ⟨fun _ => hv.1, hv.2⟩
    · rename_i hk hk2
      refine cnd_sound hg hf hd (fun ho kk hr => .inr ?_) hk (kindS_call (s := .call f args) (.inl ⟨f, args, rfl⟩)) h
      rw [hev ho]
      refine sem_callFunc hcall _ ?_
      exact CallG.mono hr fun v H' hv => ⟨fun e => absurd e hk2, hv⟩
  | callV x args =>
    obtain ⟨c, y, hop, hc, hy, hargs⟩ := low_callV hlow
    simp only [stp] at h
    split at h
    case h_2 => exact h.elim
    rename_i fv vs hfv hvs
    have hev : om a (chain C g) → ∀ f fi ca, fv = .func (.func f) fi ca → execOp a.eval o = callFunc f (fi ++ vs.toArray ++ ca) := fun ho f fi ca e => by
      have e1 := hf.rd ho hfv
      rw [← hy, xv_of, e] at e1
      rw [exec_callV hop hc e1, rds_map hf ho (by rw [hargs]; exact hvs)]
    split at h
    · rename_i hk
      obtain ⟨v, h1, h2⟩ := h
      refine quiet hk True v (fun ho => .inr ?_) h2
      obtain ⟨f, fi, ca, e, hcall, hp⟩ := h1 (hf.wf ho ho)
      unfold Qt
      rw [hev ho f fi ca e]
      exact (semq_callFunc hcall _).2 hp
    · rename_i hk
      refine cnd_sound hg hf hd (fun ho kk hr => .inr ?_) (by rw [hk]; simp) (by rw [hk]; simp) h
      obtain ⟨f, fi, ca, e, hcall, hp⟩ := hr
      rw [hev ho f fi ca e]
      refine sem_callFunc hcall _ ?_
      exact CallG.mono hp fun v H' hv => ⟨fun _ => hv.1, hv.2⟩
    · rename_i hk hk2
      refine cnd_sound hg hf hd (fun ho kk hr => .inr ?_) hk (kindS_call (s := .callV x args) (.inr ⟨x, args, rfl⟩)) h
      obtain ⟨f, fi, ca, e, hcall, hp⟩ := hr
      rw [hev ho f fi ca e]
      refine sem_callFunc hcall _ ?_
      exact CallG.mono hp fun v H' hv => ⟨fun e => absurd e hk2, hv⟩
  | alloc T z =>
    obtain ⟨hop, zv, hz, rfl⟩ := low_alloc hlow
    simp only [stp] at h
    refine cnd_sound hg hf hd (fun ho kk hr => .inr (allocP_sem (vf := fun b => .pointer (some ⟨b, 0, none⟩)) hr fun hh => ?_)) (by simp [kindS]; split <;> simp) (by simp [kindS]; split <;> simp) h
    refine sem_alloc hop hz fun b h1 h2 => ?_
    simpa using hh b h1 h2
  | box T x =>
    obtain ⟨y, hop, rfl⟩ := low_box hlow
    simp only [stp] at h
    split at h
    case h_2 => exact h.elim
    rename_i v hv
    refine cnd_sound hg hf hd (fun ho kk hr => .inr (allocP_sem (vf := fun b => .pointer (some ⟨b, 0, none⟩)) hr fun hh => ?_)) (by simp [kindS]; split <;> simp) (by simp [kindS]; split <;> simp) h
    exact sem_box hop ((hf.Rd ho).ev hv) fun b h1 h2 => hh b h1 h2
  | bslice T len z l =>
    obtain ⟨t, ps, n, zv, hop, hu, hn, hz, h0, h1, h2, hps, rfl⟩ := low_bslice hlow
    simp only [stp] at h
    split at h
    case h_2 => exact h.elim
    rename_i ob out hfl
    refine cnd_sound hg hf hd (fun ho kk hr => .inr (allocP_sem (vf := fun b => .slice (some ⟨b, 0, none⟩) len len) hr.2 fun hh => ?_)) (by simp [kindS]; split <;> simp) (by simp [kindS]; split <;> simp) h
    exact sem_bslice (hf.Rd ho) hop hu hn hz h0 h1 h2 hps hfl hr.1 fun b h1 h2 => hh b h1 h2
  | store n x y =>
    obtain ⟨t, x', y', hop, hn, rfl, rfl⟩ := low_store hlow
    simp only [stp] at h
    split at h
    case h_2 => exact h.elim
    rename_i b off v hx hy
    refine cnd_sound hg hf hd (fun ho kk hr => .inr ?_) (by simp [kindS]) (by simp [kindS]) h
    obtain ⟨hs, hst⟩ := hr
    split at hst
    case h_2 => exact hst.elim
    rename_i H' hH
    refine sem_store hop hn ((hf.Rd ho).ev hx) ((hf.Rd ho).ev hy) hs hH ?_
    exact ⟨fun e => (by simp [kindS] at e), hst⟩
  | sbytes T x =>
    obtain ⟨s', d', y, hop, hs', hd', he', rfl⟩ := low_sbytes hlow
    simp only [stp] at h
    split at h
    case h_2 => exact h.elim
    rename_i s hv
    refine cnd_sound hg hf hd (fun ho kk hr => .inr ?_) (by simp [kindS]; split <;> simp) (by simp [kindS]; split <;> simp) h
    exact sem_sbytes hop hs' hd' he' ((hf.Rd ho).ev hv) fun k b h1 h2 => ⟨fun _ => Hext.new h1, hr k b h1 h2⟩
  | xcall f args =>
    obtain ⟨c, hop, hc, hargs⟩ := low_xcall hlow
    simp only [stp] at h
    split at h
    case h_2 => exact h.elim
    rename_i vs hvs
    obtain ⟨v, h1, h2⟩ := h
    refine quiet rfl True v (fun ho => .inr ?_) h2
    unfold Qt
    rw [exec_call hop hc, rds_map hf ho (by rw [hargs]; exact hvs)]
    exact semq_mono _ _ _ (fun n hn => by rw [hn]; exact rfl) (h1 (hf.wf ho ho))
  | raw oo =>
    obtain rfl := low_raw hlow
    simp only [stp] at h
    refine cnd_sound hg hf hd (fun ho kk hr => .inr ?_) (by simp [kindS]) (by simp [kindS]) h
    refine sem_mono _ _ _ _ (fun n H' hn => ?_) (hr a hf ho)
    have hk : ∀ v H', kk v H' → (kindS draw ex g.isSome (.raw oo) = .g → Hext F H H') ∧ kk v H' := fun v H' hv => ⟨fun e => (by simp [kindS] at e), hv⟩
    cases n <;> simp only [rawK] at hn ⊢ <;> first | exact hk _ _ hn | exact CallG.mono hn hk | exact hn
  | ef e xs =>
    simp only [stp] at h
    split at h
    case h_2 => exact h.elim
    rename_i vs hvs
    refine cnd_sound hg hf hd (fun ho kk hr => .inl fun K hK => ?_) (by simp [kindS]) (by simp [kindS]) h
    show sem P F (execOp a.eval o) H _
    refine sem_mono _ _ _ _ (fun n H' hn => ?_) (sem_ef (low_ef hlow) (hf.rds ho hvs) hr)
    cases n <;> simp only [valK] at hn <;> simp only [opK]
    case value v => obtain ⟨Hc, h1, h2⟩ := hn; exact ⟨Hc, h1, hK _ _ h2⟩
    case skip => obtain ⟨Hc, h1, h2⟩ := hn; exact ⟨Hc, h1, hK _ _ h2⟩
  | ld n g x => exact plain (.inl rfl) h
  | bstr x => exact plain (.inl rfl) h
  | _ => exact plain (by cases draw with
      | false => exact .inl rfl
      | true => exact .inr ⟨rfl, fun _ _ _ _ => rfl⟩) h

/-! ### Regions -/
def lowL (P : Program) (N : Nat) (ops : Array Oper) (draw : Bool) (ex : Nat → Nat) : Nat → List Oper → Option (List SO)
  | _, [] => some []
  | k, o :: r => match lowO P N ops draw (ex k) o, lowL P N ops draw ex (k + 1) r with
    | some s, some l => some (s :: l)
    | _, _ => none

theorem svL_sound {ex : Nat → Nat} {K : Fr → Hp → Prop} : ∀ {k : Nat} {l : List Oper} {sl : List SO} {U : Fr} {C : Cf} {a : Act} {H : Hp}, lowL P N ops draw ex k l = some sl → FOk N U C a → svL P X₀ F w0 N K sl U C H →
    rvc P X₀ F w0 ops (fun a H => ∃ U, FOk N U [] a ∧ K U H) (l.zip (sl.map (·.k))) a H
  | _, [], sl, U, C, a, H, hl, hf, h => by
    simp only [lowL, Option.some.injEq] at hl
    subst hl
    exact ⟨U, hf.settle, h⟩
  | _, o :: r, sl, U, C, a, H, hl, hf, h => by
    simp only [lowL] at hl
    split at hl
    · rename_i s l' hs hl'
      simp only [Option.some.injEq] at hl
      subst hl
      simp only [svL] at h
      have h1 := stp_sound hs hf h
      simp only [List.map_cons, List.zip_cons_cons, rvc]
      split
      · rename_i hw
        rw [if_pos hw] at h1
        exact kop_mono (fun a' H' ⟨U', C', hf', h'⟩ => svL_sound hl' hf' h') h1
      · rename_i hw
        rw [if_neg hw] at h1
        obtain ⟨U', C', hf', h'⟩ := h1
        exact svL_sound hl' hf' h'
    · cases hl

theorem lowL_len {ex : Nat → Nat} : ∀ {k : Nat} {l : List Oper} {sl : List SO}, lowL P N ops draw ex k l = some sl → sl.length = l.length
  | _, [], sl, h => by simp only [lowL, Option.some.injEq] at h; subst h; rfl
  | _, o :: r, sl, h => by
    simp only [lowL] at h
    split at h
    · rename_i s l' hs hl'
      simp only [Option.some.injEq] at h
      subst h
      simp [lowL_len hl']
    · cases h
theorem lowL_get {ex : Nat → Nat} : ∀ {k : Nat} {l : List Oper} {sl : List SO}, lowL P N ops draw ex k l = some sl → ∀ (j : Nat) (o : Oper) (s : SO), l[j]? = some o → sl[j]? = some s → lowO P N ops draw (ex (k + j)) o = some s
  | _, [], sl, h, j, o, s, hj, _ => by simp at hj
  | k, o' :: r, sl, h, j, o, s, hj, hs => by
    simp only [lowL] at h
    split at h
    · rename_i s' l' hs' hl'
      simp only [Option.some.injEq] at h
      subst h
      cases j with
      | zero =>
        simp only [List.getElem?_cons_zero, Option.some.injEq] at hj hs
        subst hj hs
        exact hs'
      | succ j =>
        rw [List.getElem?_cons_succ] at hj hs
        have := lowL_get hl' j o s hj hs
        rwa [show k + (j + 1) = k + 1 + j by omega]
    · cases h

/-! ### Regions whose operations may come up in more than one order -/
inductive RT
  | done
  | stop
  | op (s : SO) (r : RT)
  | alt (s : SO) (r o : RT)
def svT (P : Program) (X₀ : List Nat) (F : Base) (w0 : World) (N : Nat) (K : Fr → Hp → Prop) : RT → Fr → Cf → Hp → Prop
  | .done, U, _, H => K U H
  | .stop, _, _, _ => True
  | .op s r, U, C, H => stp P X₀ F w0 N s U C H (svT P X₀ F w0 N K r)
  | .alt s r o, U, C, H => stp P X₀ F w0 N s U C H (svT P X₀ F w0 N K r) ∧ svT P X₀ F w0 N K o U C H
def kindL (sl : List SO) (i : Nat) : Kind := match sl[i]? with
  | some s => s.k
  | none => .e
def pickT (md : Region.Mode) (ops : Array Oper) (kd : Nat → Kind) (listed : Array Bool) (R : List Nat) : Option Nat :=
  match R.find? fun k => (kd k == .q || kd k == .p) && freeK md ops kd listed k with
  | some k => some k
  | none => match R with
    | [k] => some k
    | _ => none
def altT (md : Region.Mode) (sl : List SO) (mk : Nat → Option RT) : List Nat → Option RT
  | [] => some .stop
  | k :: R => match sl[k]?, mk k, altT md sl mk R with
    | some s, some r, some o => some (.alt s r o)
    | _, _, _ => none
def rtOf (md : Region.Mode) (ops : Array Oper) (sl : List SO) : Nat → Array Bool → Option RT
  | 0, listed => if (Region.ready md ops listed).isEmpty then some .done else none
  | fuel + 1, listed => match Region.ready md ops listed with
    | [] => some .done
    | R => match pickT md ops (kindL sl) listed R with
      | some k => match sl[k]?, rtOf md ops sl fuel (listed.setIfInBounds k true) with
        | some s, some r => some (.op s r)
        | _, _ => none
      | none => altT md sl (fun k => rtOf md ops sl fuel (listed.setIfInBounds k true)) R
theorem altT_spec {md : Region.Mode} {sl : List SO} {mk : Nat → Option RT} {K : Fr → Hp → Prop} : ∀ {R : List Nat} {t : RT}, altT md sl mk R = some t → svT P X₀ F w0 N K t U C H →
    ∀ k ∈ R, ∃ s r, sl[k]? = some s ∧ mk k = some r ∧ stp P X₀ F w0 N s U C H (svT P X₀ F w0 N K r)
  | [], _, _, _, k, hk => by cases hk
  | x :: R, t, h, hs, k, hk => by
    simp only [altT] at h
    split at h
    · rename_i s r o h1 h2 h3
      simp only [Option.some.injEq] at h
      subst h
      simp only [svT] at hs
      rcases List.mem_cons.1 hk with rfl | hk
      · exact ⟨s, r, h1, h2, hs.1⟩
      · exact altT_spec h3 hs.2 k hk
    · cases h
theorem svT_sound {md : Region.Mode} {sl : List SO} {ex : Nat → Nat} {K : Fr → Hp → Prop} (hsel : Region.noSelect ops = true) (hlow : ∀ (j : Nat) (o : Oper) (s : SO), ops[j]? = some o → sl[j]? = some s → lowO P N ops draw (ex j) o = some s) :
    ∀ {fuel : Nat} {listed : Array Bool} {t : RT} {U : Fr} {C : Cf} {a : Act} {H : Hp}, Closed md ops listed → rtOf md ops sl fuel listed = some t → FOk N U C a → svT P X₀ F w0 N K t U C H →
      anyC P X₀ F w0 md ops (kindL sl) (fun a H => ∃ U, FOk N U [] a ∧ K U H) fuel listed a H
  | 0, listed, t, U, C, a, H, hcl, hl, hf, h => by
    simp only [rtOf] at hl
    split at hl
    · rename_i he
      simp only [Option.some.injEq] at hl
      subst hl
      exact ⟨by simpa using he, U, hf.settle, h⟩
    · cases hl
  | fuel + 1, listed, t, U, C, a, H, hcl, hl, hf, h => by
    have step : ∀ (k : Nat) (s : SO) (r : RT) (U : Fr) (C : Cf) (a : Act) (H : Hp), k ∈ Region.ready md ops listed → sl[k]? = some s → rtOf md ops sl fuel (listed.setIfInBounds k true) = some r → FOk N U C a →
        stp P X₀ F w0 N s U C H (svT P X₀ F w0 N K r) → cOp P X₀ F w0 ops (kindL sl) k (anyC P X₀ F w0 md ops (kindL sl) (fun a H => ∃ U, FOk N U [] a ∧ K U H) fuel (listed.setIfInBounds k true)) a H := fun k s r U C a H hk hs hr hf h => by
      obtain ⟨_, o, ho, _⟩ := mem_ready.1 hk
      have h1 := stp_sound (hlow k o s ho hs) hf h
      have hkd : kindL sl k = s.k := by simp [kindL, hs]
      unfold cOp
      simp only [ho, hkd]
      split
      · rename_i hw
        rw [if_pos hw] at h1
        exact kop_mono (fun a' H' ⟨U', C', hf', h'⟩ => svT_sound hsel hlow (hcl.set hk) hr hf' h') h1
      · rename_i hw
        rw [if_neg hw] at h1
        obtain ⟨U', C', hf', h'⟩ := h1
        exact svT_sound hsel hlow (hcl.set hk) hr hf' h'
    simp only [rtOf] at hl
    split at hl
    · rename_i hr
      simp only [Option.some.injEq] at hl
      subst hl
      refine ⟨fun _ => ⟨U, hf.settle, h⟩, fun i hi => ?_⟩
      rw [hr] at hi; cases hi
    · rename_i hne
      split at hl
      · rename_i k hpk
        split at hl
        case h_2 => cases hl
        rename_i s r hs hr
        simp only [Option.some.injEq] at hl
        subst hl
        simp only [svT] at h
        unfold pickT at hpk
        split at hpk
        · rename_i k' hfd
          simp only [Option.some.injEq] at hpk
          subst hpk
          have hc := List.mem_of_find?_eq_some hfd
          have hq := List.find?_some hfd
          simp only [Bool.and_eq_true, Bool.or_eq_true, beq_iff_eq] at hq
          obtain ⟨_, o, ho, _⟩ := mem_ready.1 hc
          have h1 := stp_sound (hlow k' o s ho hs) hf h
          have hkd : kindL sl k' = s.k := by simp [kindL, hs]
          have hy : ∃ v, YieldsC P F ops (kindL sl k') o v a H ∧ Kr N (svT P X₀ F w0 N K r) (a.put o.dst v) H := by
            by_cases hw : Region.wanted o (yielded ops a.tmps) = true
            · rw [if_pos hw, ← hkd] at h1
              rcases hq.1 with hq' | hq' <;>
              · rw [hq'] at h1
                obtain ⟨v, h2, h3⟩ := h1
                exact ⟨v, .inl ⟨hw, by rw [hq']; exact h2⟩, h3⟩
            · rw [if_neg hw] at h1
              exact ⟨undef, .inr ⟨by simpa using hw, rfl⟩, h1⟩
          obtain ⟨v, hy, U', C', hf', h'⟩ := hy
          exact anyC_first hq.1 ho (Region.noSelect_spec hsel) fuel listed a H (freeK_spec ho hq.2) hcl hc hy (svT_sound hsel hlow (hcl.set hc) hr hf' h')
        · split at hpk
          · rename_i k' heq
            simp only [Option.some.injEq] at hpk
            subst hpk
            refine ⟨fun h => (by rw [h] at heq; cases heq), fun i hi => ?_⟩
            have hi' := hi
            rw [heq] at hi'
            obtain rfl := List.mem_singleton.1 hi'
            exact step _ s r U C a H hi hs hr hf h
          · cases hpk
      · refine ⟨fun h => absurd h hne, fun i hi => ?_⟩
        obtain ⟨s, r, hs, hr, h'⟩ := altT_spec hl h i hi
        exact step i s r U C a H hi hs hr hf h'
end
end Go.Eng
