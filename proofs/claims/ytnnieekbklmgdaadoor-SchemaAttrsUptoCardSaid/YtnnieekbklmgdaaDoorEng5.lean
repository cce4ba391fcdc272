/- The engine, part 5: the compact quiet operations are what the model does. -/
import Derived.Test.YtnnieekbklmgdaaDoorEng4
namespace Go.Eng
open Go

section
variable {P : Program} {F : Base} {H : Hp} {a : Act} {r rT rF : X → Option Value} {ob : Prop} {v : Value}

/-- What is to be shown of an operation that yields a value. -/
def Gives (P : Program) (F : Base) (H : Hp) (a : Act) (o : Oper) (v : Value) : Prop := semq P F H (execOp a.eval o) (fun n => n = .value v)

theorem gives_v {o : Oper} {s : Sem Value} (he : execOp a.eval o = (do let x ← s; pure (.value x))) (h : semq P F H s (fun x => x = v)) : Gives P F H a o v := by
  unfold Gives
  rw [he, semq_bind]
  exact semq_mono _ _ _ (fun x hx => by rw [hx]; exact rfl) h

def Rd (a : Act) (r : X → Option Value) : Prop := ∀ x v, r x = some v → xv a x = v

theorem Rd.ev (h : Rd a r) {x : Operand} {v : Value} (hx : r (X.of x) = some v) : a.eval x = v := by rw [← xv_of]; exact h _ _ hx

theorem gives_mv (hr : Rd a r) {o : Oper} {x : Operand} (hop : o.op = .move x ∨ o.op = .assign x) (hq : qev F H r rT rF (.mv (X.of x)) = some (ob, v)) : Gives P F H a o v := by
  simp only [qev, Option.map_eq_some_iff, Prod.mk.injEq] at hq
  obtain ⟨v', h1, h2, rfl⟩ := hq
  have := hr.ev h1
  unfold Gives execOp
  rcases hop with h | h <;> rw [h] <;> show (Next.value (a.eval x)) = _ <;> rw [this]

theorem gives_pick (hr : Rd a r) {o : Oper} {c x y : Operand} (hop : o.op = .pick c x y)
    (hT : xv a (X.of c) = .bool true → Rd a rT) (hF : xv a (X.of c) = .bool false → Rd a rF)
    (hq : qev F H r rT rF (.pick (X.of c) (X.of x) (X.of y)) = some (ob, v)) (hob : ob) : Gives P F H a o v := by
  simp only [qev] at hq
  split at hq
  case h_2 => cases hq
  rename_i p vx vy h1 h2 h3
  simp only [Option.some.injEq, Prod.mk.injEq] at hq
  obtain ⟨rfl, rfl⟩ := hq
  have e1 := hr.ev h1
  unfold Gives execOp
  rw [hop]
  show semq P F H ((asBool (a.eval c)).bind _) _
  rw [e1]
  show Next.value (if p = true then a.eval x else a.eval y) = _
  cases p with
  | true => rw [if_pos rfl, (hT (by rw [xv_of]; exact e1)).ev h2]; exact congrArg _ (isB_asB (hob.1 rfl))
  | false => rw [if_neg (by decide), (hF (by rw [xv_of]; exact e1)).ev h3]; exact congrArg _ (isB_asB (hob.2 rfl))

theorem eqGuard_int (op : BinOp) (t : TypeId) (x y : Operand) (k k' : IntKind) (m n : Int) : eqGuard op t x y (.int k m) (.int k' n) = pure () := by
  unfold eqGuard; cases op <;> rfl
theorem eqGuard_str (op : BinOp) (t : TypeId) (x y : Operand) (m n : ByteArray) : eqGuard op t x y (.string m) (.string n) = pure () := by
  unfold eqGuard; cases op <;> rfl
theorem eqGuard_bool (op : BinOp) (t : TypeId) (x y : Operand) (m n : Bool) : eqGuard op t x y (.bool m) (.bool n) = pure () := by
  unfold eqGuard; cases op <;> rfl

theorem bo_arith (op : BinOp) (h : op = .add ∨ op = .sub ∨ op = .mul) (t : TypeId) (k : IntKind) (a b : Int) : binOp op t (.int k a) (.int k b) = Op.intArith op k a b := by
  rcases h with rfl | rfl | rfl <;> (unfold binOp; simp only [ne_eq, not_true_eq_false, if_false])
theorem bo_div (op : BinOp) (h : op = .quo ∨ op = .rem) (t : TypeId) (k : IntKind) (a b : Int) : binOp op t (.int k a) (.int k b) = Op.intDiv op k a b := by
  rcases h with rfl | rfl <;> (unfold binOp; simp only [ne_eq, not_true_eq_false, if_false])
theorem bo_bits (op : BinOp) (h : op = .and ∨ op = .or) (t : TypeId) (k : IntKind) (a b : Int) : binOp op t (.int k a) (.int k b) = Op.intBits op k a b := by
  rcases h with rfl | rfl <;> (unfold binOp; simp only [ne_eq, not_true_eq_false, if_false])
theorem bo_cmp (op : BinOp) (h : op = .eql ∨ op = .neq ∨ op = .lss ∨ op = .leq ∨ op = .gtr ∨ op = .geq) (t : TypeId) (k : IntKind) (a b : Int) : binOp op t (.int k a) (.int k b) = Op.intCmp op a b := by
  rcases h with rfl | rfl | rfl | rfl | rfl | rfl <;> (unfold binOp; simp only [ne_eq, not_true_eq_false, if_false])
theorem bo_shl (t : TypeId) (k k' : IntKind) (a b : Int) : binOp .shl t (.int k a) (.int k' b) = Op.shift .shl k a k' b := by unfold binOp; rfl
theorem bo_shr (t : TypeId) (k k' : IntKind) (a b : Int) : binOp .shr t (.int k a) (.int k' b) = Op.shift .shr k a k' b := by unfold binOp; rfl
theorem bo_str (op : BinOp) (h : op ≠ .shl ∧ op ≠ .shr) (t : TypeId) (a b : ByteArray) : binOp op t (.string a) (.string b) = Op.stringOp op a b := by
  cases op <;> first | (simp at h; done) | (unfold binOp; rfl)

theorem semq_binq (op : BinOp) (t : TypeId) (x y : Value) (hq : binq op x y = some (ob, v)) (hob : ob) : semq P F H (binOp op t x y) (fun z => z = v) := by
  unfold binq at hq
  split at hq
  all_goals first
    | (cases hq; done)
    | skip
  all_goals (simp only [Option.some.injEq, Prod.mk.injEq] at hq; obtain ⟨rfl, rfl⟩ := hq)
  · rw [bo_shl]; unfold Op.shift; rw [if_neg (by omega)]; exact rfl
  · rw [bo_shr]; unfold Op.shift; rw [if_neg (by omega)]; exact rfl
  · subst hob; rw [bo_arith _ (by simp)]; exact rfl
  · subst hob; rw [bo_arith _ (by simp)]; exact rfl
  · subst hob; rw [bo_arith _ (by simp)]; exact rfl
  · obtain ⟨rfl, hne⟩ := hob; rw [bo_div _ (by simp)]; unfold Op.intDiv; rw [if_neg hne]; exact rfl
  · obtain ⟨rfl, hne⟩ := hob; rw [bo_div _ (by simp)]; unfold Op.intDiv; rw [if_neg hne]; exact rfl
  · subst hob; rw [bo_bits _ (by simp)]; exact rfl
  · subst hob; rw [bo_bits _ (by simp)]; exact rfl
  · subst hob; rw [bo_cmp _ (by simp)]; exact rfl
  · subst hob; rw [bo_cmp _ (by simp)]; exact rfl
  · subst hob; rw [bo_cmp _ (by simp)]; exact rfl
  · subst hob; rw [bo_cmp _ (by simp)]; exact rfl
  · subst hob; rw [bo_cmp _ (by simp)]; exact rfl
  · subst hob; rw [bo_cmp _ (by simp)]; exact rfl
  · rw [bo_str _ (by simp)]; unfold Op.stringOp
    have e : IntKind.i64.max = 9223372036854775807 := by decide
    rw [e]
    simp only
    rw [if_neg (by omega)]
    exact rfl
  · rw [bo_str _ (by simp)]; unfold Op.stringOp; simp only [toList_eq]; exact rfl
  · rw [bo_str _ (by simp)]; unfold Op.stringOp; simp only [toList_eq]; exact rfl
  · rw [bo_str _ (by simp)]; unfold Op.stringOp; simp only [toList_eq]; exact rfl
  · rw [bo_str _ (by simp)]; unfold Op.stringOp; simp only [toList_eq]; exact rfl
  · rw [bo_str _ (by simp)]; unfold Op.stringOp; simp only [toList_eq]; exact rfl
  · rw [bo_str _ (by simp)]; unfold Op.stringOp; simp only [toList_eq]; exact rfl

theorem binq_kinds {op : BinOp} {x y : Value} {z : Prop × Value} (h : binq op x y = some z) : (∃ k a k' b, x = .int k a ∧ y = .int k' b) ∨ (∃ a b, x = .string a ∧ y = .string b) := by
  unfold binq at h
  split at h <;> first
    | (cases h; done)
    | exact .inl ⟨_, _, _, _, rfl, rfl⟩
    | exact .inr ⟨_, _, rfl, rfl⟩

theorem gives_bin (hr : Rd a r) {o : Oper} {op : BinOp} {t t' : TypeId} {x y : Operand} (hop : o.op = .binOp op t x y t')
    (hq : qev F H r rT rF (.bin op (X.of x) (X.of y)) = some (ob, v)) (hob : ob) : Gives P F H a o v := by
  simp only [qev] at hq
  split at hq
  case h_2 => cases hq
  rename_i va vb h1 h2
  have e1 := hr.ev h1
  have e2 := hr.ev h2
  have he : execOp a.eval o = (do let x ← (do eqGuard op t x y (a.eval x) (a.eval y); binOp op t (a.eval x) (a.eval y)); pure (.value x)) := by
    unfold execOp; rw [hop]
  refine gives_v he ?_
  rw [e1, e2, semq_bind]
  have hg : eqGuard op t x y va vb = pure () := by
    rcases binq_kinds hq with ⟨k, m, k', n, rfl, rfl⟩ | ⟨m, n, rfl, rfl⟩
    · exact eqGuard_int ..
    · exact eqGuard_str ..
  rw [hg]
  show semq P F H (binOp op t va vb) _
  exact semq_binq op t va vb hq hob

theorem semq_equalIn_bool {d : Nat} {t : TypeId} {m n : Bool} (hu : P.underlying t = some .bool) {K : Bool → Prop} (hK : K (m == n)) : semq P F H (Op.equalIn (d + 1) t (.bool m) (.bool n)) K := by
  unfold Op.equalIn
  rw [semq_bind, semq_underlying hu]
  exact hK

theorem gives_beq (hr : Rd a r) {o : Oper} {op : BinOp} {t t' : TypeId} {x y : Operand} (hop : o.op = .binOp op t x y t') (ht : op = .eql ∨ op = .neq) (hu : P.underlying t = some .bool)
    (hq : qev F H r rT rF (.beq (op == .neq) (X.of x) (X.of y)) = some (ob, v)) (hob : ob) : Gives P F H a o v := by
  simp only [qev] at hq
  split at hq
  case h_2 => simp only [Option.some.injEq, Prod.mk.injEq] at hq; exact (hq.1 ▸ hob : False).elim
  case h_3 => cases hq
  rename_i m n h1 h2
  simp only [Option.some.injEq, Prod.mk.injEq] at hq
  obtain ⟨rfl, rfl⟩ := hq
  have e1 := hr.ev h1
  have e2 := hr.ev h2
  have he : execOp a.eval o = (do let x ← (do eqGuard op t x y (a.eval x) (a.eval y); binOp op t (a.eval x) (a.eval y)); pure (.value x)) := by
    unfold execOp; rw [hop]
  refine gives_v he ?_
  rw [e1, e2, eqGuard_bool]
  show semq P F H (binOp op t (.bool m) (.bool n)) _
  rcases ht with rfl | rfl
  · have e : binOp .eql t (.bool m) (.bool n) = (Op.equal t (.bool m) (.bool n) >>= fun z => pure (Value.bool z)) := by unfold binOp; rfl
    rw [e, semq_bind]
    exact semq_equalIn_bool (d := 9999) hu rfl
  · have e : binOp .neq t (.bool m) (.bool n) = (Op.equal t (.bool m) (.bool n) >>= fun z => pure (Value.bool (!z))) := by unfold binOp; rfl
    rw [e, semq_bind]
    exact semq_equalIn_bool (d := 9999) hu rfl
end
end Go.Eng
