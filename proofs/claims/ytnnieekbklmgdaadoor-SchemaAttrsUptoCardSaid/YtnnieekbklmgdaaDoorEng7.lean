/- The engine, part 7: slices, literals, bytes to strings. -/
import Derived.Test.YtnnieekbklmgdaaDoorEng6
namespace Go.Eng
open Go

section
variable {P : Program} {F : Base} {H : Hp} {a : Act} {r rT rF : X → Option Value} {ob : Prop} {v : Value}

theorem semq_sliceBound {k : IntKind} {n : Int} {y : Nat} {code : BoundsCode} (h : 0 ≤ n ∧ n ≤ y) {K : Nat → Prop} (hK : K n.toNat) : semq P F H (Instr.sliceBound (.int k n) y code) K := by
  unfold Instr.sliceBound asIntOf
  simp only [semq_bind, semq_pure]
  rw [if_pos h]; exact hK

theorem rdO_some (hr : Rd a r) {d : Int} {x : Option Operand} {n : Int} (h : rdO r d (x.map X.of) = some n) : (x = none ∧ n = d) ∨ ∃ y k, x = some y ∧ a.eval y = .int k n := by
  cases x with
  | none => simp only [Option.map_none, rdO, Option.some.injEq] at h; exact .inl ⟨rfl, h.symm⟩
  | some y =>
    simp only [Option.map_some, rdO, Option.bind_eq_some_iff] at h
    obtain ⟨w, h1, h2⟩ := h
    cases w <;> simp only [bound] at h2 <;> first | (cases h2; done) | skip
    rename_i k m
    simp only [Option.some.injEq] at h2
    subst h2
    exact .inr ⟨y, k, rfl, hr.ev h1⟩

theorem semq_sliceBounds (hr : Rd a r) {isS : Bool} {len cap : Nat} {lo hi : Option Operand} {l h : Int} (hl : rdO r 0 (lo.map X.of) = some l) (hh : rdO r len (hi.map X.of) = some h)
    (hob : 0 ≤ l ∧ l ≤ h ∧ h ≤ cap) {K : Nat × Nat × Nat → Prop} (hK : K (l.toNat, h.toNat, cap)) : semq P F H (Instr.sliceBounds isS len cap (lo.map a.eval) (hi.map a.eval) none) K := by
  rcases rdO_some hr hh with ⟨rfl, rfl⟩ | ⟨y, k, rfl, hy⟩ <;> rcases rdO_some hr hl with ⟨rfl, rfl⟩ | ⟨y', k', rfl, hy'⟩
  · unfold Instr.sliceBounds
    simp only [Option.map_none, semq_bind, semq_pure]
    simpa using hK
  · unfold Instr.sliceBounds
    simp only [Option.map_none, Option.map_some, hy', semq_bind, semq_pure]
    exact semq_sliceBound ⟨by omega, by omega⟩ (by simpa using hK)
  · unfold Instr.sliceBounds
    simp only [Option.map_none, Option.map_some, hy, semq_bind, semq_pure]
    exact semq_sliceBound ⟨by omega, by omega⟩ (by simpa using hK)
  · unfold Instr.sliceBounds
    simp only [Option.map_some, hy, hy', semq_bind, semq_pure]
    exact semq_sliceBound ⟨by omega, by omega⟩ (semq_sliceBound ⟨by omega, by omega⟩ (by simpa using hK))

theorem extract_bs (s : ByteArray) (l h : Nat) : s.extract l h = bs ((s.data.toList.take h).drop l) := by
  have e : ∀ x : ByteArray, x = ⟨x.data⟩ := fun _ => rfl
  rw [e (s.extract l h)]
  unfold bs
  congr 1
  apply Array.ext'
  rw [ByteArray.data_extract]
  simp [List.drop_take]

theorem gives_slStr (hr : Rd a r) {o : Oper} {t : TypeId} {x : Operand} {lo hi : Option Operand} (hop : o.op = .slice t x lo hi none) (hu : P.underlying t = some .string)
    (hq : qev F H r rT rF (.slStr (X.of x) (lo.map X.of) (hi.map X.of)) = some (ob, v)) (hob : ob) : Gives P F H a o v := by
  simp only [qev] at hq
  split at hq
  case h_2 => cases hq
  rename_i s h1
  split at hq
  case h_2 => cases hq
  rename_i l h h2 h3
  simp only [Option.some.injEq, Prod.mk.injEq] at hq
  obtain ⟨rfl, rfl⟩ := hq
  have e1 := hr.ev h1
  refine gives_v (s := Instr.sliceAt t (a.eval x) (lo.map a.eval) (hi.map a.eval) none) (by unfold execOp; rw [hop]; try rfl) ?_
  rw [e1]
  unfold Instr.sliceAt
  simp only [semq_bind, semq_underlying hu]
  unfold Instr.slice
  simp only [semq_bind, semq_underlying hu]
  have hsz : s.data.toList.length = s.size := Array.length_toList
  rw [hsz] at h3 hob
  simp only [Option.isSome_none, Bool.false_eq_true, if_false, semq_bind]
  refine semq_sliceBounds hr h2 h3 hob ?_
  show Value.string _ = _
  rw [extract_bs]

theorem gives_slS (hr : Rd a r) {o : Oper} {t e : TypeId} {n : Nat} {x : Operand} {lo hi : Option Operand} (hop : o.op = .slice t x lo hi none) (hu : P.underlying t = some (.slice e)) (hn : szO P e = some n)
    (hq : qev F H r rT rF (.slS n (X.of x) (lo.map X.of) (hi.map X.of)) = some (ob, v)) (hob : ob) : Gives P F H a o v := by
  simp only [qev] at hq
  split at hq
  case h_2 => cases hq
  rename_i b off len cap h1
  split at hq
  case h_2 => cases hq
  rename_i l h h2 h3
  simp only [Option.some.injEq, Prod.mk.injEq] at hq
  obtain ⟨rfl, rfl⟩ := hq
  have e1 := hr.ev h1
  refine gives_v (s := Instr.sliceAt t (a.eval x) (lo.map a.eval) (hi.map a.eval) none) (by unfold execOp; rw [hop]; try rfl) ?_
  rw [e1]
  unfold Instr.sliceAt
  simp only [semq_bind, semq_underlying hu]
  unfold Instr.slice
  simp only [semq_bind, semq_underlying hu]
  refine semq_sliceBounds hr h2 h3 ⟨hob.1, hob.2.1, hob.2.2.1⟩ ?_
  simp only [semq_sizeOf hn, semq_pure]
  have e2 : (h - l).toNat = h.toNat - l.toNat := by omega
  rw [e2]
  split
  · rename_i hc
    have : l = 0 := hob.2.2.2 hc.symm
    subst this
    simp
  · simp [add_eq]

theorem gives_slA (hr : Rd a r) {o : Oper} {t e : TypeId} {len n : Nat} {x : Operand} {lo hi : Option Operand} (hop : o.op = .slice t x lo hi none) (hu : P.underlying t = some (.array len e)) (hn : szO P e = some n)
    (hq : qev F H r rT rF (.slA len n (X.of x) (lo.map X.of) (hi.map X.of)) = some (ob, v)) (hob : ob) : Gives P F H a o v := by
  simp only [qev] at hq
  split at hq
  case h_2 => cases hq
  rename_i b off h1
  split at hq
  case h_2 => cases hq
  rename_i l h h2 h3
  simp only [Option.some.injEq, Prod.mk.injEq] at hq
  obtain ⟨rfl, rfl⟩ := hq
  have e1 := hr.ev h1
  refine gives_v (s := Instr.sliceAt t (a.eval x) (lo.map a.eval) (hi.map a.eval) none) (by unfold execOp; rw [hop]; try rfl) ?_
  rw [e1]
  unfold Instr.sliceAt Instr.sureAddr
  simp only [semq_bind, semq_underlying hu, semq_pure]
  refine semq_sliceBounds hr h2 h3 ⟨hob.1, hob.2.1, hob.2.2.1⟩ ?_
  simp only [semq_sizeOf hn]
  have e2 : (h - l).toNat = h.toNat - l.toNat := by omega
  rw [e2]
  split
  · rename_i hc
    have : l = 0 := hob.2.2.2 hc.symm
    subst this
    simp
  · simp [add_eq]

/-! ### Literals -/
theorem fold_put (off : Nat) : ∀ (l : List Value) (j : Nat) (cs : List Value), off + j + l.length ≤ cs.length →
    (l.zipIdx j).foldl (fun cs (x : Value × Nat) => cs.setIfInBounds (off + x.2) x.1) cs.toArray = (cs.take (off + j) ++ l ++ cs.drop (off + j + l.length)).toArray
  | [], j, cs, _ => by simp
  | x :: l, j, cs, h => by
    simp only [List.length_cons] at h
    simp only [List.zipIdx_cons, List.foldl_cons, List.setIfInBounds_toArray]
    rw [fold_put off l (j + 1) (cs.set (off + j) x) (by simp; omega)]
    congr 1
    have hlt : off + j < cs.length := by omega
    rw [List.take_set, List.drop_set]
    have e1 : (cs.take (off + (j + 1))).set (off + j) x = cs.take (off + j) ++ [x] := by
      rw [show off + (j + 1) = (off + j) + 1 from by omega, List.take_succ_eq_append_getElem hlt, List.set_append_right _ _ (by simp; omega)]
      simp [Nat.min_eq_left (Nat.le_of_lt hlt)]
    rw [e1, if_pos (by omega)]
    simp [Nat.add_assoc, Nat.add_comm 1]

theorem fill_ok (hr : Rd a r) {pl : Nat → Option (Nat × Nat)} : ∀ {ps : List (Nat × Operand)} {l : List (Nat × Nat × X)} {cells : List Value} {p : Prop} {out : List Value}, partsO pl ps = some l →
    fillL r cells l = some (p, out) → p → Instr.fill pl cells.toArray (ps.map fun q => (q.1, a.eval q.2)) = some out.toArray
  | [], l, cells, p, out, h, hf, hp => by
    simp only [partsO, List.mapM_nil, Option.pure_def, Option.some.injEq] at h
    subst h
    simp only [fillL, Option.some.injEq, Prod.mk.injEq] at hf
    obtain ⟨_, rfl⟩ := hf
    rfl
  | (i, x) :: ps, l, cells, p, out, h, hf, hp => by
    simp only [partsO, List.mapM_cons, Option.bind_eq_bind, Option.bind_eq_some_iff, Option.map_eq_some_iff, Option.pure_def, Option.some.injEq] at h
    obtain ⟨q, ⟨pp, hpp, rfl⟩, l', hl', rfl⟩ := h
    obtain ⟨off, n⟩ := pp
    simp only [fillL] at hf
    split at hf
    case h_2 => cases hf
    rename_i vv hv
    simp only [Option.map_eq_some_iff, Prod.mk.injEq] at hf
    obtain ⟨⟨p', out'⟩, hf', h1, rfl⟩ := hf
    simp only at h1
    subst h1
    obtain ⟨⟨hs, hle⟩, hp'⟩ := hp
    simp only [List.map_cons, Instr.fill, hpp, hr.ev hv]
    rw [if_neg (by simp [hs]; omega)]
    have e := fold_put off vv.cells.toList 0 cells (by simp [hs]; omega)
    simp only [Nat.add_zero] at e
    have e5 : vv.cells.zipIdx.foldl (fun cs (x : Value × Nat) => cs.setIfInBounds (off + x.2) x.1) cells.toArray = (vv.cells.toList.zipIdx 0).foldl (fun cs (x : Value × Nat) => cs.setIfInBounds (off + x.2) x.1) cells.toArray := by
      rw [← Array.foldl_toList, Array.toList_zipIdx]
    rw [show (vv.cells.zipIdx.foldl (fun cs (c, j) => cs.setIfInBounds (off + j) c) cells.toArray) = _ from e5.trans e]
    have e2 : off + vv.cells.toList.length = off + n := by simp [hs]
    rw [e2]
    exact fill_ok hr hl' hf' hp'

theorem gives_build (hr : Rd a r) {o : Oper} {t : TypeId} {ps : Array (Nat × Operand)} (hop : o.op = .build t ps) {pl : Nat → Option (Nat × Nat)} {z : Value} {l : List (Nat × Nat × X)}
    (hpl : placesO P t = some pl) (hz : zeroO P t = some z) (hps : partsO pl ps.toList = some l)
    (hq : qev F H r rT rF (.build z.cells.toList l) = some (ob, v)) (hob : ob) : Gives P F H a o v := by
  simp only [qev, Option.map_eq_some_iff, Prod.mk.injEq] at hq
  obtain ⟨⟨p, out⟩, hf, h1, rfl⟩ := hq
  simp only at h1
  subst h1
  have hfill := fill_ok hr hps hf hob
  refine gives_v (s := Instr.build t (ps.map fun (i, x) => (i, a.eval x))) (by unfold execOp; rw [hop]) ?_
  have e1 : (ps.map fun (i, x) => (i, a.eval x)).toList = ps.toList.map fun q => (q.1, a.eval q.2) := by simp
  unfold Instr.build
  simp only [semq_bind, semq_zero hz]
  unfold placesO at hpl
  split at hpl
  · rename_i fs hu
    rw [semq_underlying hu]
    split at hpl
    case h_2 => cases hpl
    rename_i pls hm
    simp only [Option.some.injEq] at hpl
    subst hpl
    have key : ∀ (l : List Field) (pls : List (Nat × Nat)) (K : List (Nat × Nat) → Prop), l.mapM (fun f => (szO P f.type).map (fun n => (f.offset, n))) = some pls → K pls → semq P F H (l.mapM (fun f => do let n ← sizeOf f.type; pure (f.offset, n))) K := by
      intro l
      induction l with
      | nil => intro pls K h hK; simp only [List.mapM_nil, Option.pure_def, Option.some.injEq] at h; subst h; exact hK
      | cons f l ih =>
        intro pls K h hK
        simp only [List.mapM_cons, Option.bind_eq_bind, Option.bind_eq_some_iff, Option.map_eq_some_iff, Option.pure_def, Option.some.injEq] at h
        obtain ⟨q, ⟨n, hn, rfl⟩, l', hl', rfl⟩ := h
        simp only [List.mapM_cons, semq_bind, semq_sizeOf hn, semq_pure]
        exact ih l' _ hl' hK
    simp only [semq_bind]
    rw [Array.mapM_eq_mapM_toList, map_eq_pure_bind, semq_bind]
    refine key _ _ _ hm ?_
    simp only [semq_pure, e1]
    have e3 : (fun (i : Nat) => pls.toArray[i]?) = (fun (i : Nat) => pls[i]?) := by funext i; simp
    rw [e3]
    have e4 : z.cells = z.cells.toList.toArray := by simp
    rw [e4, hfill]
    exact rfl
  · rename_i n e hu
    rw [semq_underlying hu]
    simp only [Option.map_eq_some_iff] at hpl
    obtain ⟨m, hm, rfl⟩ := hpl
    simp only [semq_bind, semq_sizeOf hm, e1]
    have e4 : z.cells = z.cells.toList.toArray := by simp
    rw [e4, hfill]
    exact rfl
  · cases hpl
end
end Go.Eng
