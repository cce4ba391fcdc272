/- The engine, part 6: the other quiet operations. -/
import Derived.Test.YtnnieekbklmgdaaDoorEng5
namespace Go.Eng
open Go

section
variable {P : Program} {F : Base} {H : Hp} {a : Act} {r rT rF : X → Option Value} {ob : Prop} {v : Value}

theorem gives_un (hr : Rd a r) {o : Oper} {op : UnOp} {t : TypeId} {x : Operand} (hop : o.op = .unOp op t x)
    (hq : qev F H r rT rF (.un op (X.of x)) = some (ob, v)) : Gives P F H a o v := by
  simp only [qev] at hq
  split at hq
  case h_2 => cases hq
  rename_i va h1
  simp only [Option.map_eq_some_iff, Prod.mk.injEq] at hq
  obtain ⟨v', h2, h3, rfl⟩ := hq
  have e1 := hr.ev h1
  refine gives_v (s := Op.unary op (a.eval x)) (by unfold execOp; rw [hop]) ?_
  rw [e1]
  unfold unq at h2
  split at h2
  · simp only [Option.some.injEq] at h2; subst h2; exact rfl
  · simp only [Option.some.injEq] at h2; subst h2; exact rfl
  · cases h2

theorem gives_conv (hr : Rd a r) {o : Oper} {k0 k : IntKind} {s d : TypeId} {x : Operand} (hop : o.op = .convert s d x) (hs : P.underlying s = some (.int k0)) (hd : P.underlying d = some (.int k))
    (hq : qev F H r rT rF (.conv k (X.of x)) = some (ob, v)) : Gives P F H a o v := by
  simp only [qev] at hq
  split at hq
  case h_2 => cases hq
  rename_i kk n h1
  simp only [Option.some.injEq, Prod.mk.injEq] at hq
  obtain ⟨rfl, rfl⟩ := hq
  have e1 := hr.ev h1
  refine gives_v (s := convert s d (a.eval x)) (by unfold execOp; rw [hop]) ?_
  rw [e1]
  unfold convert
  simp only [semq_bind, semq_underlying hs, semq_underlying hd]
  exact rfl

theorem gives_ext (hr : Rd a r) {o : Oper} {x : Operand} {i : Nat} (hop : o.op = .extract x i)
    (hq : qev F H r rT rF (.ext (X.of x) i) = some (ob, v)) : Gives P F H a o v := by
  simp only [qev] at hq
  split at hq
  case h_2 => cases hq
  rename_i vs h1
  simp only [Option.map_eq_some_iff, Prod.mk.injEq] at hq
  obtain ⟨v', h2, h3, rfl⟩ := hq
  have e1 := hr.ev h1
  refine gives_v (s := Instr.extract (a.eval x) i) (by unfold execOp; rw [hop]) ?_
  rw [e1]
  unfold Instr.extract
  simp only [h2]
  exact rfl

theorem gives_add (hr : Rd a r) {o : Oper} {s : TypeId} {x : Operand} {i : Nat} (hop : o.op = .fieldAddr s x i) {off n : Nat} {t : TypeId} (hf : fieldO P s i = some (off, n, t))
    (hq : qev F H r rT rF (.add off (X.of x)) = some (ob, v)) (hob : ob) : Gives P F H a o v := by
  simp only [qev] at hq
  split at hq
  case h_2 => simp only [Option.some.injEq, Prod.mk.injEq] at hq; exact (hq.1 ▸ hob : False).elim
  case h_3 => cases hq
  rename_i b of' h1
  simp only [Option.some.injEq, Prod.mk.injEq] at hq
  obtain ⟨rfl, rfl⟩ := hq
  have e1 := hr.ev h1
  refine gives_v (s := Instr.fieldAt s (a.eval x) i) (by unfold execOp; rw [hop]) ?_
  rw [e1]
  unfold fieldO at hf
  split at hf
  case h_2 => cases hf
  rename_i fs hu
  split at hf
  case h_2 => cases hf
  rename_i f hfi
  split at hf
  · cases hf
  · rename_i m hne hm
    simp only [Option.some.injEq, Prod.mk.injEq] at hf
    obtain ⟨rfl, rfl, rfl⟩ := hf
    unfold Instr.fieldAt
    simp only [semq_bind, semq_underlying hu, hfi]
    unfold Instr.sureAddr fieldPlace
    simp only [semq_pure, semq_bind, semq_sizeOf hm]
    rw [if_neg (fun e => hne (by rw [← e]))]
    simp only [semq_pure, add_eq]
  · cases hf

theorem semq_part {t : TypeId} {cs : Array Value} {off n : Nat} {g : Bool} (hn : szO P t = some n) (hg : aggB P t = some g) {K : Value → Prop}
    (h : if g then K (.agg ((cs.toList.drop off).take n).toArray) else (off < cs.size ∧ K (cs.getD off undef))) : semq P F H (part t cs off) K := by
  unfold part
  rw [semq_bind, semq_isAgg hg]
  cases g with
  | true =>
    simp only [if_true, semq_bind, semq_sizeOf hn, semq_pure] at h ⊢
    have : cs.extract off (off + n) = ((cs.toList.drop off).take n).toArray := by
      apply Array.ext'
      simp [List.take_drop]
    rw [this]; exact h
  | false =>
    simp only [if_false, Bool.false_eq_true] at h ⊢
    obtain ⟨h1, h2⟩ := h
    rw [Array.getElem?_eq_getElem h1]
    simp only [semq_pure]
    have : cs.getD off undef = cs[off] := by simp [Array.getD, h1]
    rw [← this]; exact h2

theorem gives_fld (hr : Rd a r) {o : Oper} {s : TypeId} {x : Operand} {i : Nat} (hop : o.op = .field s x i) {off n : Nat} {t : TypeId} {g : Bool} (hf : fieldO P s i = some (off, n, t)) (hg : aggB P t = some g)
    (hq : qev F H r rT rF (.fld off n g (X.of x)) = some (ob, v)) (hob : ob) : Gives P F H a o v := by
  simp only [qev] at hq
  split at hq
  case h_2 => cases hq
  rename_i cs h1
  have e1 := hr.ev h1
  refine gives_v (s := Instr.field s (a.eval x) i) (by unfold execOp; rw [hop]) ?_
  rw [e1]
  unfold fieldO at hf
  split at hf
  case h_2 => cases hf
  rename_i fs hu
  split at hf
  case h_2 => cases hf
  rename_i f hfi
  split at hf
  · cases hf
  · rename_i m hne hm
    simp only [Option.some.injEq, Prod.mk.injEq] at hf
    obtain ⟨rfl, rfl, rfl⟩ := hf
    unfold Instr.field
    simp only [semq_bind, semq_underlying hu, hfi]
    unfold asAgg
    simp only [semq_pure]
    refine semq_part hm hg ?_
    cases g with
    | true => simp only [if_true, Option.some.injEq, Prod.mk.injEq] at hq ⊢; exact hq.2
    | false => simp only [Bool.false_eq_true, if_false, Option.some.injEq, Prod.mk.injEq] at hq ⊢; exact ⟨hq.1 ▸ hob, hq.2⟩
  · cases hf

theorem gives_ixA (hr : Rd a r) {o : Oper} {t : TypeId} {x i : Operand} (hop : o.op = .indexAddr t x i) {len n : Nat} {e : TypeId} (hu : P.underlying t = some (.array len e)) (hn : szO P e = some n)
    (hq : qev F H r rT rF (.ixA len n (X.of x) (X.of i)) = some (ob, v)) (hob : ob) : Gives P F H a o v := by
  simp only [qev] at hq
  split at hq
  case h_2 => cases hq
  rename_i b off kk k h1 h2
  simp only [Option.some.injEq, Prod.mk.injEq] at hq
  obtain ⟨rfl, rfl⟩ := hq
  have e1 := hr.ev h1
  have e2 := hr.ev h2
  refine gives_v (s := Instr.indexAt t (a.eval x) (a.eval i)) (by unfold execOp; rw [hop]) ?_
  rw [e1, e2]
  unfold Instr.indexAt asIntOf Instr.sureAddr
  simp only [semq_bind, semq_pure, semq_underlying hu]
  rw [if_pos hob]
  simp only [semq_bind, semq_sizeOf hn, semq_pure, add_eq]

theorem gives_ixS (hr : Rd a r) {o : Oper} {t : TypeId} {x i : Operand} (hop : o.op = .indexAddr t x i) {n : Nat} {e : TypeId} (hu : P.underlying t = some (.slice e)) (hn : szO P e = some n)
    (hq : qev F H r rT rF (.ixS n (X.of x) (X.of i)) = some (ob, v)) (hob : ob) : Gives P F H a o v := by
  simp only [qev] at hq
  split at hq
  case h_2 => simp only [Option.some.injEq, Prod.mk.injEq] at hq; exact (hq.1 ▸ hob : False).elim
  case h_3 => cases hq
  rename_i b off len cap kk k h1 h2
  simp only [Option.some.injEq, Prod.mk.injEq] at hq
  obtain ⟨rfl, rfl⟩ := hq
  have e1 := hr.ev h1
  have e2 := hr.ev h2
  refine gives_v (s := Instr.indexAt t (a.eval x) (a.eval i)) (by unfold execOp; rw [hop]) ?_
  rw [e1, e2]
  unfold Instr.indexAt asIntOf
  simp only [semq_bind, semq_pure, semq_underlying hu]
  rw [if_pos hob]
  simp only [semq_bind, semq_sizeOf hn, semq_pure, add_eq]

theorem bytes_get (s : ByteArray) (k : Nat) (h : k < s.data.toList.length) : s[k]? = some (s.data.toList.getD k 0) := by
  have h' : k < s.data.size := by simpa using h
  have h2 : k < s.size := h'
  rw [getElem?_pos s k h2]
  have e : s[k] = s.data[k] := rfl
  rw [e]
  simp only [List.getD_eq_getElem?_getD, Array.getElem?_toList, Array.getElem?_eq_getElem h', Option.getD_some]

theorem gives_ixStr (hr : Rd a r) {o : Oper} {t : TypeId} {x i : Operand} (hop : o.op = .index t x i) (hu : P.underlying t = some .string)
    (hq : qev F H r rT rF (.ixStr (X.of x) (X.of i)) = some (ob, v)) (hob : ob) : Gives P F H a o v := by
  simp only [qev] at hq
  split at hq
  case h_2 => cases hq
  rename_i s kk k h1 h2
  simp only [Option.some.injEq, Prod.mk.injEq] at hq
  obtain ⟨rfl, rfl⟩ := hq
  have e1 := hr.ev h1
  have e2 := hr.ev h2
  refine gives_v (s := Instr.index t (a.eval x) (a.eval i)) (by unfold execOp; rw [hop]) ?_
  rw [e1, e2]
  unfold Instr.index asIntOf
  simp only [semq_bind, semq_pure, semq_underlying hu]
  rw [if_pos hob.1, bytes_get s k.toNat (by omega)]
  exact rfl

theorem gives_ixAgg (hr : Rd a r) {o : Oper} {t : TypeId} {x i : Operand} (hop : o.op = .index t x i) {len n : Nat} {e : TypeId} {g : Bool} (hu : P.underlying t = some (.array len e)) (hn : szO P e = some n) (hg : aggB P e = some g)
    (hq : qev F H r rT rF (.ixAgg len n g (X.of x) (X.of i)) = some (ob, v)) (hob : ob) : Gives P F H a o v := by
  simp only [qev] at hq
  split at hq
  case h_2 => cases hq
  rename_i cs kk k h1 h2
  have e1 := hr.ev h1
  have e2 := hr.ev h2
  refine gives_v (s := Instr.index t (a.eval x) (a.eval i)) (by unfold execOp; rw [hop]) ?_
  rw [e1, e2]
  unfold Instr.index asIntOf
  simp only [semq_bind, semq_pure, semq_underlying hu]
  cases g with
  | true =>
    simp only [if_true, Option.some.injEq, Prod.mk.injEq] at hq
    obtain ⟨rfl, rfl⟩ := hq
    rw [if_pos ⟨hob.1, hob.2.1⟩]
    simp only [semq_bind, semq_sizeOf hn]
    exact semq_part hn hg rfl
  | false =>
    simp only [Bool.false_eq_true, if_false, Option.some.injEq, Prod.mk.injEq] at hq
    obtain ⟨rfl, rfl⟩ := hq
    rw [if_pos ⟨hob.1, hob.2.1⟩]
    simp only [semq_bind, semq_sizeOf hn]
    exact semq_part hn hg ⟨hob.2.2, rfl⟩

theorem gives_ld (hr : Rd a r) {o : Oper} {t : TypeId} {x : Operand} (hop : o.op = .load t x) {n : Nat} {g : Bool} (hn : szO P t = some n) (hg : aggB P t = some g)
    (hq : qev F H r rT rF (.ld n g (X.of x)) = some (ob, v)) (hob : ob) : Gives P F H a o v := by
  simp only [qev] at hq
  split at hq
  case h_2 => simp only [Option.some.injEq, Prod.mk.injEq] at hq; exact (hq.1 ▸ hob : False).elim
  case h_3 => cases hq
  rename_i b off h1
  split at hq
  case h_2 => simp only [Option.some.injEq, Prod.mk.injEq] at hq; exact (hq.1 ▸ hob : False).elim
  rename_i l hl
  have e1 := hr.ev h1
  refine gives_v (s := Instr.loadAt t (a.eval x)) (by unfold execOp; rw [hop]) ?_
  rw [e1]
  unfold Instr.loadAt Instr.sureAddr loadVar
  simp only [semq_bind, semq_pure, semq_isAgg hg]
  cases g with
  | true =>
    simp only [if_true, Option.some.injEq, Prod.mk.injEq] at hq ⊢
    obtain ⟨rfl, rfl⟩ := hq
    simp only [semq_bind, semq_sizeOf hn]
    exact semq_loadCells hl rfl
  | false =>
    simp only [Bool.false_eq_true, if_false, Option.some.injEq, Prod.mk.injEq] at hq ⊢
    obtain ⟨rfl, rfl⟩ := hq
    subst hob
    unfold cellsAt at hl
    split at hl
    · rename_i c e f ho
      split at hl
      · rename_i hle
        simp only [Option.some.injEq] at hl
        subst hl
        refine semq_load (v := c[off]) (by rw [cellOf_at ho]; simp) ?_
        rw [List.drop_eq_getElem_cons (by simp; omega)]
        simp
      · cases hl
    · cases hl

theorem gives_lenStr (hr : Rd a r) {o : Oper} {c : Call} {t : TypeId} {x : Operand} (hop : o.op = .call c) (hc : c.callee = .builtin .len) (ha : c.args.toList = [x]) (htt : c.argTypes.toList = [t]) (hu : P.underlying t = some .string)
    (hq : qev F H r rT rF (.lenStr (X.of x)) = some (ob, v)) (hob : ob) : Gives P F H a o v := by
  simp only [qev] at hq
  split at hq
  case h_2 => simp only [Option.some.injEq, Prod.mk.injEq] at hq; exact (hq.1 ▸ hob : False).elim
  case h_3 => cases hq
  rename_i s h1
  simp only [Option.some.injEq, Prod.mk.injEq] at hq
  obtain ⟨rfl, rfl⟩ := hq
  have e1 := hr.ev h1
  have ha' : c.args = #[x] := by rw [← Array.toArray_toList (xs := c.args), ha]
  have ht' : c.argTypes = #[t] := by rw [← Array.toArray_toList (xs := c.argTypes), htt]
  refine gives_v (s := Builtin.len_ #[t] o.type #[a.eval x]) ?_ ?_
  · unfold execOp; rw [hop]; simp only [resolve, hc, ha', ht', List.map_toArray, List.map_cons, List.map_nil]; rfl
  · rw [e1]
    unfold Builtin.len_
    simp only [List.getElem?_toArray, List.getElem?_cons_zero, semq_bind, semq_underlying hu, semq_pure]
    rfl

theorem gives_lenSl (hr : Rd a r) {o : Oper} {c : Call} {t e : TypeId} {x : Operand} (hop : o.op = .call c) (hc : c.callee = .builtin .len) (ha : c.args.toList = [x]) (htt : c.argTypes.toList = [t]) (hu : P.underlying t = some (.slice e))
    (hq : qev F H r rT rF (.lenSl (X.of x)) = some (ob, v)) (hob : ob) : Gives P F H a o v := by
  simp only [qev] at hq
  split at hq
  case h_2 => simp only [Option.some.injEq, Prod.mk.injEq] at hq; exact (hq.1 ▸ hob : False).elim
  case h_3 => cases hq
  rename_i s n cc h1
  simp only [Option.some.injEq, Prod.mk.injEq] at hq
  obtain ⟨rfl, rfl⟩ := hq
  have e1 := hr.ev h1
  have ha' : c.args = #[x] := by rw [← Array.toArray_toList (xs := c.args), ha]
  have ht' : c.argTypes = #[t] := by rw [← Array.toArray_toList (xs := c.argTypes), htt]
  refine gives_v (s := Builtin.len_ #[t] o.type #[a.eval x]) ?_ ?_
  · unfold execOp; rw [hop]; simp only [resolve, hc, ha', ht', List.map_toArray, List.map_cons, List.map_nil]; rfl
  · rw [e1]
    unfold Builtin.len_
    simp only [List.getElem?_toArray, List.getElem?_cons_zero, semq_bind, semq_underlying hu, semq_pure]
    rfl

theorem gives_mx (hr : Rd a r) {o : Oper} {c : Call} {x y : Operand} (hop : o.op = .call c) (hc : c.callee = .builtin .max) (ha : c.args.toList = [x, y])
    (hq : qev F H r rT rF (.mx (X.of x) (X.of y)) = some (ob, v)) (hob : ob) : Gives P F H a o v := by
  simp only [qev] at hq
  split at hq
  case h_2 => cases hq
  rename_i k m k' n h1 h2
  simp only [Option.some.injEq, Prod.mk.injEq] at hq
  obtain ⟨rfl, rfl⟩ := hq
  subst hob
  have e1 := hr.ev h1
  have e2 := hr.ev h2
  have ha' : c.args = #[x, y] := by rw [← Array.toArray_toList (xs := c.args), ha]
  refine gives_v (s := Builtin.max_ c.argTypes o.type #[a.eval x, a.eval y]) ?_ ?_
  · unfold execOp; rw [hop]; simp only [resolve, hc, ha', List.map_toArray, List.map_cons, List.map_nil]; rfl
  · rw [e1, e2]
    unfold Builtin.max_
    exact rfl

theorem mapM_rd (hr : Rd a r) : ∀ {xs : List Operand} {vs : List Value}, (xs.map X.of).mapM r = some vs → xs.map a.eval = vs
  | [], vs, h => by simp at h; subst h; rfl
  | x :: l, vs, h => by
    simp only [List.map_cons, List.mapM_cons, Option.bind_eq_bind, Option.bind_eq_some_iff, Option.pure_def, Option.some.injEq] at h
    obtain ⟨v, h1, vs', h2, rfl⟩ := h
    rw [List.map_cons, hr.ev h1, mapM_rd hr h2]

theorem gives_nck (hr : Rd a r) {o : Oper} {x : Operand} (hop : o.op = .nilCheck x)
    (hq : qev F H r rT rF (.nck (X.of x)) = some (ob, v)) : Gives P F H a o v := by
  simp only [qev] at hq
  split at hq
  · rename_i p h1
    simp only [Option.some.injEq, Prod.mk.injEq] at hq
    obtain ⟨rfl, rfl⟩ := hq
    have e1 := hr.ev h1
    unfold Gives execOp
    rw [hop]
    simp only [e1]
    exact rfl
  · rename_i f u w h1
    simp only [Option.some.injEq, Prod.mk.injEq] at hq
    obtain ⟨rfl, rfl⟩ := hq
    have e1 := hr.ev h1
    unfold Gives execOp
    rw [hop]
    simp only [e1]
    exact rfl
  · cases hq

theorem gives_mkF (hr : Rd a r) {o : Oper} {fn : Fn} {fi ca : Array Operand} (hop : o.op = .makeFunc fn fi ca)
    (hq : qev F H r rT rF (.mkF fn (fi.toList.map X.of) (ca.toList.map X.of)) = some (ob, v)) : Gives P F H a o v := by
  simp only [qev] at hq
  split at hq
  case h_2 => cases hq
  rename_i l1 l2 h1 h2
  simp only [Option.some.injEq, Prod.mk.injEq] at hq
  obtain ⟨rfl, rfl⟩ := hq
  refine gives_v (s := Instr.makeFunc fn (fi.map a.eval) (ca.map a.eval)) (by unfold execOp; rw [hop]) ?_
  have e1 : fi.map a.eval = l1.toArray := by apply Array.ext'; simp [mapM_rd hr h1]
  have e2 : ca.map a.eval = l2.toArray := by apply Array.ext'; simp [mapM_rd hr h2]
  rw [e1, e2]
  exact rfl
end
end Go.Eng
