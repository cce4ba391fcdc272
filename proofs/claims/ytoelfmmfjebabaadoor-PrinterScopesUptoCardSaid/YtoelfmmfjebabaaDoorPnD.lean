/- Layer 10: paths, entities' names, small functions. -/
import Derived.Test.YtoelfmmfjebabaaDoorPnC
namespace Go.Proofs.YtoelfmmfjebabaaDoor
open Go Go.Eng
open Int renaming reduceEq → Za, reduceToNat → Zm, reduceLE → Zn, reduceLT → Zo, reduceAdd → Zp, reduceSub → Zq, reduceNeg → Zr, reducePow → Zt, reduceNegSucc → Zv
open UInt8 renaming reduceOfNat → Zb
open List renaming mapM_cons → Zc, mapM_nil → Zd
open Nat renaming reduceAdd → Ze, reduceMul → Zf, reduceMod → Zg, reduceDiv → Zh, reduceEqDiff → Zi, reduceBEq → Zj, reduceLeDiff → Zk, reduceSub → Zl, reducePow → Zs, reduceLT → Zu
set_option linter.unusedSimpArgs false
set_option linter.unusedVariables false
set_option maxRecDepth 20000

/-- The first index, if there is one. -/
def isFst (p : Nat → Bool) (n : Nat) (r : Int) : Prop := (∃ i : Nat, r = i ∧ i < n ∧ p i = true ∧ ∀ j, j < i → p j = false) ∨ (r = -1 ∧ ∀ j, j < n → p j = false)
/-- The first place of what is so; -1: nowhere. -/
def idxI {α : Type} (p : α → Bool) : List α → Int
  | [] => -1
  | x :: l => if p x then 0 else if idxI p l < 0 then -1 else idxI p l + 1
theorem idxI_ge {α : Type} (p : α → Bool) : ∀ l : List α, -1 ≤ idxI p l ∧ idxI p l < l.length
  | [] => by simp [idxI]
  | x :: l => by
    have := idxI_ge p l
    rw [idxI]
    simp only [List.length_cons]
    split
    · omega
    · split <;> omega
theorem idxI_isFst {α : Type} (p : α → Bool) (d : α) : ∀ l : List α, isFst (fun i => p (l.getD i d)) l.length (idxI p l)
  | [] => .inr ⟨rfl, fun j h => by simp at h⟩
  | x :: l => by
    have ih := idxI_isFst p d l
    rw [idxI]
    cases hx : p x with
    | true =>
      rw [if_pos rfl]
      exact .inl ⟨0, rfl, by simp, hx, fun j h => absurd h (by omega)⟩
    | false =>
      rw [if_neg (by simp)]
      rcases ih with ⟨i, h1, h2, h3, h4⟩ | ⟨h1, h2⟩
      · rw [if_neg (by omega)]
        refine .inl ⟨i + 1, by omega, by simp; omega, h3, fun j hj => ?_⟩
        cases j with
        | zero => exact hx
        | succ j => exact h4 j (by omega)
      · rw [if_pos (by omega)]
        refine .inr ⟨rfl, fun j hj => ?_⟩
        cases j with
        | zero => exact hx
        | succ j => exact h2 j (by simpa using hj)
theorem isFst_at {p : Nat → Bool} {n : Nat} {i : Nat} (h : isFst p n i) : i < n ∧ p i = true := by
  rcases h with ⟨k, h1, h2, h3, _⟩ | ⟨h1, _⟩
  · have : k = i := by omega
    subst this; exact ⟨h2, h3⟩
  · omega
/-- slices.Index of texts, and slices.Contains. -/
theorem idxS_pure (F : Base) {v : Value} {l : List Str} (h : SlS F v l) (nm : Str) : PureV Tryd.prog F 43 #[v, .string (bs nm)] (.int .i64 (idxI (fun x : Str => nm == x) l)) := by
  obtain ⟨a, c, rfl, hc, hl, hh⟩ := h
  have hr := idxI_isFst (fun x : Str => nm == x) [] l
  revert hr
  generalize idxI (fun x : Str => nm == x) l = r
  intro hr
  refine pureV_of_svc mixed Tryd.func43 low43 (Nat.le_of_ble_eq_true rfl) (fun w0 => ?_)
  simp (disch := first | assumption | exact Ne.symm (by assumption) | omega) only [fu43, ↓ZD, ZU, ZR, Za, Zb, Zc, Zd, Ze, Zf, Zg, Zh, Zi, Zj, Zk, Zl, Zm, Zn, Zo, Zp, Zq, Zr, reduceIte, reduceCtorEq, Zs, Zt, Zu, Zv]
  refine LoopL.inv (α := Nat) (fun i => i ≤ l.length ∧ ∀ j, j < i → (nm == l.getD j []) = false)
    (fun i => [(0, some (.slice a l.length c)), (1, some (.string (bs nm))), (7, some (.int .i64 l.length)), (8, some (.int .i64 i))]) (fun i => []) (fun i => l.length - i) 0 ⟨Nat.zero_le _, fun j h => absurd h (by omega)⟩ (by (simp only [Le_nil, Le_cons]; simp (disch := first | assumption | exact Ne.symm (by assumption) | omega) only [↓ZD, ZU, ZR, Za, Zb, Zc, Zd, Ze, Zf, Zg, Zh, Zi, Zj, Zk, Zl, Zm, Zn, Zo, Zp, Zq, Zr, reduceIte, reduceCtorEq, Zs, Zt, Zu, Zv]; try trivial)) (by (simp only [HLe_nil, HLe_cons]; try (simp (disch := first | assumption | exact Ne.symm (by assumption) | omega) only [↓ZD, ZU, ZR, Za, Zb, Zc, Zd, Ze, Zf, Zg, Zh, Zi, Zj, Zk, Zl, Zm, Zn, Zo, Zp, Zq, Zr, reduceIte, reduceCtorEq, Zs, Zt, Zu, Zv]))) ?_
  rintro i ⟨hi, ha⟩
  by_cases hlt : i < l.length
  · have hd : decide ((i : Int) < (l.length : Int)) = true := by simp; omega
    have gx := getS hlt
    obtain ⟨ba, oa, rfl, hla⟩ := (hh.1 i _ gx).ld1
    simp only [Nat.mul_one] at hla
    simp (disch := first | assumption | exact Ne.symm (by assumption) | omega) only [hd, Nat.mul_one, ↓ZD, ZU, ZR, Za, Zb, Zc, Zd, Ze, Zf, Zg, Zh, Zi, Zj, Zk, Zl, Zm, Zn, Zo, Zp, Zq, Zr, reduceIte, reduceCtorEq, Zs, Zt, Zu, Zv]
    refine conj.of (by omega) ?_
    simp (disch := first | assumption | exact Ne.symm (by assumption) | omega) only [hd, Int.toNat_natCast, Nat.mul_one, ↓hla, ↓ZD, ZU, ZR, Za, Zb, Zc, Zd, Ze, Zf, Zg, Zh, Zi, Zj, Zk, Zl, Zm, Zn, Zo, Zp, Zq, Zr, reduceIte, reduceCtorEq, Zs, Zt, Zu, Zv]
    refine ⟨fun hpp => ?_, fun hpp => ?_⟩
    · have : r = i := by
        rcases hr with ⟨k, h1, h2, h3, h4⟩ | ⟨h1, h2⟩
        · have : k = i := by
            rcases Nat.lt_trichotomy k i with h | h | h
            · have := ha k h; simp only at h3; rw [this] at h3; cases h3
            · exact h
            · have := h4 i h; simp only at this; rw [this] at hpp; cases hpp
          rw [h1, this]
        · have := h2 i hlt; simp only at this; rw [this] at hpp; cases hpp
      rw [this]
    · refine invK.on (i + 1) (⟨by omega, fun j hj => by
        by_cases e : j = i
        · rw [e]; exact hpp
        · exact ha j (by omega)⟩) (by omega) (by (simp only [Le_nil, Le_cons]; simp (disch := first | assumption | exact Ne.symm (by assumption) | omega) only [↓ZD, ZU, ZR, Za, Zb, Zc, Zd, Ze, Zf, Zg, Zh, Zi, Zj, Zk, Zl, Zm, Zn, Zo, Zp, Zq, Zr, reduceIte, reduceCtorEq, Zs, Zt, Zu, Zv]; try trivial)) (by (simp only [HLe_nil, HLe_cons]; try (simp (disch := first | assumption | exact Ne.symm (by assumption) | omega) only [↓ZD, ZU, ZR, Za, Zb, Zc, Zd, Ze, Zf, Zg, Zh, Zi, Zj, Zk, Zl, Zm, Zn, Zo, Zp, Zq, Zr, reduceIte, reduceCtorEq, Zs, Zt, Zu, Zv])))
  · have hd : decide ((i : Int) < (l.length : Int)) = false := by simp; omega
    have : r = -1 := by
      rcases hr with ⟨k, h1, h2, h3, h4⟩ | ⟨h1, h2⟩
      · have := ha k (by omega); simp only at h3; rw [this] at h3; cases h3
      · exact h1
    simp (disch := first | assumption | exact Ne.symm (by assumption) | omega) only [hd, this, ↓ZD, ZU, ZR, Za, Zb, Zc, Zd, Ze, Zf, Zg, Zh, Zi, Zj, Zk, Zl, Zm, Zn, Zo, Zp, Zq, Zr, reduceIte, reduceCtorEq, Zs, Zt, Zu, Zv]
theorem idxI_mem {α : Type} (p : α → Bool) : ∀ l : List α, decide (0 ≤ idxI p l) = l.any p
  | [] => rfl
  | x :: l => by
    have ih := idxI_mem p l
    have := idxI_ge p l
    rw [idxI, List.any_cons, ← ih]
    cases hx : p x with
    | true => rfl
    | false =>
      rw [if_neg (by simp), Bool.false_or]
      split
      · rw [show decide ((0 : Int) ≤ -1) = false from rfl]; symm; simp; omega
      · rw [Bool.eq_iff_iff]; simp; omega
theorem any_mem (nm : Str) (l : List Str) : (l.any fun x => nm == x) = decide (nm ∈ l) := by
  rw [Bool.eq_iff_iff, List.any_eq_true, decide_eq_true_eq]
  exact ⟨fun ⟨x, h1, h2⟩ => by rw [beq_iff_eq] at h2; rw [h2]; exact h1, fun h => ⟨nm, h, by simp⟩⟩
theorem contains_pure (F : Base) {v : Value} {l : List Str} (h : SlS F v l) (nm : Str) : PureV Tryd.prog F 25 #[v, .string (bs nm)] (.bool (decide (nm ∈ l))) := by
  have hi := idxS_pure F h nm
  have e := idxI_mem (fun x : Str => nm == x) l
  rw [any_mem] at e
  obtain ⟨a, c, rfl, -⟩ := h
  refine pureV_of_svc mixed Tryd.func25 low25 (Nat.le_of_ble_eq_true rfl) (fun w0 => ?_)
  simp (disch := first | assumption | exact Ne.symm (by assumption) | omega) only [fu25, ↓ZD, ZU, ZR, Za, Zb, Zc, Zd, Ze, Zf, Zg, Zh, Zi, Zj, Zk, Zl, Zm, Zn, Zo, Zp, Zq, Zr, reduceIte, reduceCtorEq, Zs, Zt, Zu, Zv]
  refine CallE.pure hi ?_
  simp (disch := first | assumption | exact Ne.symm (by assumption) | omega) only [e, ↓ZD, ZU, ZR, Za, Zb, Zc, Zd, Ze, Zf, Zg, Zh, Zi, Zj, Zk, Zl, Zm, Zn, Zo, Zp, Zq, Zr, reduceIte, reduceCtorEq, Zs, Zt, Zu, Zv]

theorem cut_pure (F : Base) (hg : HasM F) (s : Str) (hs : s.length < 4294967281) : PureV Tryd.prog F 45 #[.string (bs s), .string (bs [58, 58])] (.tuple #[.string (bs (Go.Lib.cut s cc).1), .string (bs (Go.Lib.cut s cc).2.1), .bool (Go.Lib.cut s cc).2.2]) := by
  intro w hw
  obtain ⟨c, T, fz, m, h1, h2⟩ := hg
  have hb := hw _ _ h1
  have hc : w.cell? ⟨1, 0, none⟩ = some (.int .i64 m) := by simp [World.cell?, hb, h2]
  refine (Tryd.strings_Cut (bs s) (bs cc) m w hs hc).mono ?_
  rintro e w' ⟨rfl, n, rfl⟩
  exact ⟨rfl, ⟨rfl, rfl, rfl, Nat.le_refl _, fun _ _ => rfl⟩⟩
def ownL : List Str := [[105, 102], [116, 104, 101, 110], [101, 108, 115, 101], [116, 114, 117, 101], [102, 97, 108, 115, 101], [105, 110], [104, 97, 115], [105, 115]]
def fst58 (s : Str) : Str := s.takeWhile (· != 58)
def okPath (s : Str) : Bool := pathB s && !decide (fst58 s ∈ ownL)
theorem name_58 {s : Str} (h : nameB s = true) : ∀ c ∈ s, c ≠ 58 := by
  intro c hc e
  subst e
  have key : isLD 58 = false := by decide
  cases s with
  | nil => cases hc
  | cons a r =>
    simp only [nameB, Bool.and_eq_true, List.all_eq_true] at h
    rcases List.mem_cons.1 hc with rfl | hc
    · rw [isLD_of h.1] at key; cases key
    · rw [h.2 _ hc] at key; cases key
theorem takeWhile_all {p : UInt8 → Bool} : ∀ {s : Str}, (∀ c ∈ s, p c = true) → s.takeWhile p = s
  | [], _ => rfl
  | c :: s, h => by
    rw [List.takeWhile_cons, if_pos (h c List.mem_cons_self), takeWhile_all fun d hd => h d (List.mem_cons_of_mem _ hd)]
theorem cut_fst {s : Str} (h : pathB s = true) : (Go.Lib.cut s cc).1 = fst58 s := by
  unfold Go.Lib.cut
  rcases Go.Lib.index_spec s cc with ⟨h1, h2⟩ | ⟨k, h1, h2, h3, h4⟩
  · rw [pathB_miss h1] at h
    rw [if_neg (by omega)]
    exact (takeWhile_all fun c hc => by simpa using name_58 h c hc).symm
  · rw [pathB_hit h1, Bool.and_eq_true] at h
    rw [if_pos (by omega), h1]
    simp only [Int.toNat_natCast]
    have h5 : s.drop k = 58 :: (s.drop k).tail := by
      unfold Go.Lib.occAt at h3
      cases hd : s.drop k with
      | nil => rw [hd] at h3; simp [cc] at h3
      | cons c r =>
        rw [hd] at h3
        simp only [cc, List.isPrefixOf, Bool.and_eq_true, beq_iff_eq] at h3
        rw [← h3.1]; rfl
    unfold fst58
    conv => rhs; rw [← List.take_append_drop k s, h5]
    rw [List.takeWhile_append_of_pos fun c hc => by simpa using name_58 h.1 c hc, List.takeWhile_cons, if_neg (by decide), List.append_nil]
theorem uses_own (F : Base) (s : Str) : PureV Tryd.prog F 53 #[.string (bs s)] (.bool (decide (s ∈ ownL))) := by
  refine pureV_of_svc mixed Tryd.func53 low53 (Nat.le_of_ble_eq_true rfl) (fun w0 => ?_)
  simp (disch := first | assumption | exact Ne.symm (by assumption) | omega) only [fu53, ↓ZD, ZU, ZR, Za, Zb, Zc, Zd, Ze, Zf, Zg, Zh, Zi, Zj, Zk, Zl, Zm, Zn, Zo, Zp, Zq, Zr, reduceIte, reduceCtorEq, Zs, Zt, Zu, Zv]
  have e : decide (s ∈ ownL) = ((s == [105, 102]) || ((s == [116, 104, 101, 110]) || ((s == [101, 108, 115, 101]) || ((s == [116, 114, 117, 101]) || ((s == [102, 97, 108, 115, 101]) || ((s == [105, 110]) || ((s == [104, 97, 115]) || (s == [105, 115])))))))) := by
    rw [Bool.eq_iff_iff]; simp [ownL]
  rw [e]
  simp only [Value.bool.injEq]
  generalize (s == [105, 102]) = b0
  generalize (s == [116, 104, 101, 110]) = b1
  generalize (s == [101, 108, 115, 101]) = b2
  generalize (s == [116, 114, 117, 101]) = b3
  generalize (s == [102, 97, 108, 115, 101]) = b4
  generalize (s == [105, 110]) = b5
  generalize (s == [104, 97, 115]) = b6
  generalize (s == [105, 115]) = b7
  cases b0 with
  | true => simp
  | false =>
    cases b1 with
    | true => simp
    | false =>
      cases b2 with
      | true => simp
      | false =>
        cases b3 with
        | true => simp
        | false =>
          cases b4 with
          | true => simp
          | false =>
            cases b5 with
            | true => simp
            | false =>
              cases b6 with
              | true => simp
              | false =>
                cases b7 with
                | true => simp
                | false =>
                  simp
theorem stp_bslice_guard {P : Program} {X : List Nat} {F : Base} {w0 : World} {N T len l : Nat} {z : List Value} {ps : List (Nat × Nat × Eng.X)} {d : Option Nat} {U : Fr} {C : Cf} {H : Hp} {next : Fr → Cf → Hp → Prop} {k : Kind} {ob : Prop} {out : List Value} (hr : fillL (rd U C (chain C (some l))) z ps = some (ob, out))
    (h1 : Wf U C (chain C (some l)) (chain C (some l)) → ob ∧ @NewB F H (.cells out.toArray T) ⟨fun b H' => put d (chain C (some l)) (.slice (some ⟨b, 0, none⟩) len len) U C H' next⟩) (h2 : NW U C (chain C (some l)) → skp d (chain C (some l)) U C (fun U C => next U C H)) :
    stp P X F w0 N ⟨d, .bslice T len z ps, some l, k⟩ U C H next := by
  unfold stp
  simp only [hr]
  exact ⟨h1, h2⟩
theorem own_len : ∀ x ∈ ownL, x.length ≤ 9223372036854775807 := by decide
theorem own_sls {F : Base} {b T : Nat} (h : F b = some (.cells #[.string (bs [105, 102]), .string (bs [116, 104, 101, 110]), .string (bs [101, 108, 115, 101]), .string (bs [116, 114, 117, 101]), .string (bs [102, 97, 108, 115, 101]), .string (bs [105, 110]), .string (bs [104, 97, 115]), .string (bs [105, 115])] T (0, 0))) : SlS F (.slice (some ⟨b, 0, none⟩) 8 8) ownL :=
  ⟨_, 8, rfl, by decide, by decide, fun i x hx => by
    rcases i with _ | _ | _ | _ | _ | _ | _ | _ | i
    all_goals first
      | (simp only [ownL, List.getElem?_cons_zero, List.getElem?_cons_succ, Option.some.injEq] at hx; subst hx; exact ⟨b, 0, _, _, _, rfl, h, by simp, by simp⟩)
      | (simp [ownL] at hx), fun i x hx => own_len x (List.mem_of_getElem? hx)⟩
theorem path_wr (F : Base) (hg : HasM F) (b : Nat) (s0 : Str) (bad : Bool) (s : Str) (hl : s0.length + s.length ≤ 100000000000000) (hs : s.length ≤ 1000000000) :
    Wr F 27 [.pointer (some ⟨b, 0, none⟩), .string (bs s)] b s0 bad (s0 ++ s) (bad || !okPath s) (.tuple #[]) := by
  have k1 := cut_pure F hg s (by omega)
  have k2 := path_pure F hg s hs
  refine Wr.of_svc mixed Tryd.func27 low27 (Nat.le_of_ble_eq_true rfl) fun H0 hp w0 hw0 => ?_
  simp (disch := first | assumption | exact Ne.symm (by assumption) | omega) only [fu27, ↓ZD, ZU, ZR, Za, Zb, Zc, Zd, Ze, Zf, Zg, Zh, Zi, Zj, Zk, Zl, Zm, Zn, Zo, Zp, Zq, Zr, reduceIte, reduceCtorEq, Zs, Zt, Zu, Zv]
  refine CallE.pure k1 ?_
  simp (disch := first | assumption | exact Ne.symm (by assumption) | omega) only [↓ZD, ZU, ZR, Za, Zb, Zc, Zd, Ze, Zf, Zg, Zh, Zi, Zj, Zk, Zl, Zm, Zn, Zo, Zp, Zq, Zr, reduceIte, reduceCtorEq, Zs, Zt, Zu, Zv]
  refine CallE.pure k2 ?_
  cases hpb : pathB s with
  | true =>
    rw [cut_fst hpb]
    simp (disch := first | assumption | exact Ne.symm (by assumption) | omega) only [↓ZD, ZU, ZR, Za, Zb, Zc, Zd, Ze, Zf, Zg, Zh, Zi, Zj, Zk, Zl, Zm, Zn, Zo, Zp, Zq, Zr, reduceIte, reduceCtorEq, Zs, Zt, Zu, Zv]
    refine stp_bslice_guard (ob := True) (out := [.string (bs [105, 102]), .string (bs [116, 104, 101, 110]), .string (bs [101, 108, 115, 101]), .string (bs [116, 114, 117, 101]), .string (bs [102, 97, 108, 115, 101]), .string (bs [105, 110]), .string (bs [104, 97, 115]), .string (bs [105, 115])]) (by simp (disch := first | assumption | exact Ne.symm (by assumption) | omega) only [↓ZD, ZU, ZR, Za, Zb, Zc, Zd, Ze, Zf, Zg, Zh, Zi, Zj, Zk, Zl, Zm, Zn, Zo, Zp, Zq, Zr, reduceIte, reduceCtorEq, Zs, Zt, Zu, Zv]) (fun h => ⟨trivial, NewB.of fun b9 hb9 hF9 => ?_⟩) (fun h => ?_)
    · simp (disch := first | assumption | exact Ne.symm (by assumption) | omega) only [↓ZD, ZU, ZR, Za, Zb, Zc, Zd, Ze, Zf, Zg, Zh, Zi, Zj, Zk, Zl, Zm, Zn, Zo, Zp, Zq, Zr, reduceIte, reduceCtorEq, Zs, Zt, Zu, Zv]
      have k3 := contains_pure (rdObj F ((b9, .cells #[.string (bs [105, 102]), .string (bs [116, 104, 101, 110]), .string (bs [101, 108, 115, 101]), .string (bs [116, 114, 117, 101]), .string (bs [102, 97, 108, 115, 101]), .string (bs [105, 110]), .string (bs [104, 97, 115]), .string (bs [105, 115])] 9 (0, 0)) :: H0)) (own_sls (b := b9) (T := 9) (by simp [rdObj, hF9, lk])) (fst58 s)
      refine CallQ.of _ k3 ?_
      simp (disch := first | assumption | exact Ne.symm (by assumption) | omega) only [↓ZD, ZU, ZR, Za, Zb, Zc, Zd, Ze, Zf, Zg, Zh, Zi, Zj, Zk, Zl, Zm, Zn, Zo, Zp, Zq, Zr, reduceIte, reduceCtorEq, Zs, Zt, Zu, Zv]
      refine CallE.wr [(b9, .cells #[.string (bs [105, 102]), .string (bs [116, 104, 101, 110]), .string (bs [101, 108, 115, 101]), .string (bs [116, 114, 117, 101]), .string (bs [102, 97, 108, 115, 101]), .string (bs [105, 110]), .string (bs [104, 97, 115]), .string (bs [105, 115])] 9 (0, 0))] H0 (must_wr _ b s0 bad _) hp (fun e he => List.mem_cons_of_mem _ he) (by simp) (by simpa using hb9) ?_
      intro H1 hp1 hd1
      simp (disch := first | assumption | exact Ne.symm (by assumption) | omega) only [↓ZD, ZU, ZR, Za, Zb, Zc, Zd, Ze, Zf, Zg, Zh, Zi, Zj, Zk, Zl, Zm, Zn, Zo, Zp, Zq, Zr, reduceIte, reduceCtorEq, Zs, Zt, Zu, Zv]
      refine NewB.of fun b1 hb1 hF1 => ?_
      simp only [List.forall_mem_cons] at hb1
      simp (disch := first | assumption | exact Ne.symm (by assumption) | omega) only [hF1, ↓ZD, ZU, ZR, Za, Zb, Zc, Zd, Ze, Zf, Zg, Zh, Zi, Zj, Zk, Zl, Zm, Zn, Zo, Zp, Zq, Zr, reduceIte, reduceCtorEq, Zs, Zt, Zu, Zv]
      refine CallE.wr [(b1, .cells #[.string (bs s)] 9 (0, 0))] H1 (put1 _ b b1 9 s0 s _ (by simp [rdObj, hF1, lk]) hl) hp1 (by simp +contextual) (by simp) (by simpa using hb1.2) ?_
      intro H2 hp2 hd2
      simp (disch := first | assumption | exact Ne.symm (by assumption) | omega) only [↓ZD, ZU, ZR, Za, Zb, Zc, Zd, Ze, Zf, Zg, Zh, Zi, Zj, Zk, Zl, Zm, Zn, Zo, Zp, Zq, Zr, reduceIte, reduceCtorEq, Zs, Zt, Zu, Zv]
      exact ⟨H2, by simp +contextual, by unfold okPath; rw [hpb]; exact hp2⟩
    · have h' : (true : Bool) = false := h
      cases h'
  | false =>
    simp (disch := first | assumption | exact Ne.symm (by assumption) | omega) only [↓ZD, ZU, ZR, Za, Zb, Zc, Zd, Ze, Zf, Zg, Zh, Zi, Zj, Zk, Zl, Zm, Zn, Zo, Zp, Zq, Zr, reduceIte, reduceCtorEq, Zs, Zt, Zu, Zv]
    refine stp_bslice_guard (ob := True) (out := [.string (bs [105, 102]), .string (bs [116, 104, 101, 110]), .string (bs [101, 108, 115, 101]), .string (bs [116, 114, 117, 101]), .string (bs [102, 97, 108, 115, 101]), .string (bs [105, 110]), .string (bs [104, 97, 115]), .string (bs [105, 115])]) (by simp (disch := first | assumption | exact Ne.symm (by assumption) | omega) only [↓ZD, ZU, ZR, Za, Zb, Zc, Zd, Ze, Zf, Zg, Zh, Zi, Zj, Zk, Zl, Zm, Zn, Zo, Zp, Zq, Zr, reduceIte, reduceCtorEq, Zs, Zt, Zu, Zv]) (fun h => ?_) (fun h => ?_)
    · have h' : (false : Bool) = true := h.1
      cases h'
    · unfold skp
      simp (disch := first | assumption | exact Ne.symm (by assumption) | omega) only [↓ZD, ZU, ZR, Za, Zb, Zc, Zd, Ze, Zf, Zg, Zh, Zi, Zj, Zk, Zl, Zm, Zn, Zo, Zp, Zq, Zr, reduceIte, reduceCtorEq, Zs, Zt, Zu, Zv]
      refine CallQ.of (.bool false) trivial ?_
      simp (disch := first | assumption | exact Ne.symm (by assumption) | omega) only [↓ZD, ZU, ZR, Za, Zb, Zc, Zd, Ze, Zf, Zg, Zh, Zi, Zj, Zk, Zl, Zm, Zn, Zo, Zp, Zq, Zr, reduceIte, reduceCtorEq, Zs, Zt, Zu, Zv]
      refine CallE.wr [] H0 (must_wr _ b s0 bad _) hp (fun e he => he) (by simp) (by simp) ?_
      intro H1 hp1 hd1
      simp (disch := first | assumption | exact Ne.symm (by assumption) | omega) only [↓ZD, ZU, ZR, Za, Zb, Zc, Zd, Ze, Zf, Zg, Zh, Zi, Zj, Zk, Zl, Zm, Zn, Zo, Zp, Zq, Zr, reduceIte, reduceCtorEq, Zs, Zt, Zu, Zv]
      refine NewB.of fun b1 hb1 hF1 => ?_
      simp (disch := first | assumption | exact Ne.symm (by assumption) | omega) only [hF1, ↓ZD, ZU, ZR, Za, Zb, Zc, Zd, Ze, Zf, Zg, Zh, Zi, Zj, Zk, Zl, Zm, Zn, Zo, Zp, Zq, Zr, reduceIte, reduceCtorEq, Zs, Zt, Zu, Zv]
      refine CallE.wr [(b1, .cells #[.string (bs s)] 9 (0, 0))] H1 (put1 _ b b1 9 s0 s _ (by simp [rdObj, hF1, lk]) hl) hp1 (by simp +contextual) (by simp) (by simpa using hb1) ?_
      intro H2 hp2 hd2
      simp (disch := first | assumption | exact Ne.symm (by assumption) | omega) only [↓ZD, ZU, ZR, Za, Zb, Zc, Zd, Ze, Zf, Zg, Zh, Zi, Zj, Zk, Zl, Zm, Zn, Zo, Zp, Zq, Zr, reduceIte, reduceCtorEq, Zs, Zt, Zu, Zv]
      exact ⟨H2, by simp +contextual, by unfold okPath; rw [hpb]; exact hp2⟩
end Go.Proofs.YtoelfmmfjebabaaDoor
