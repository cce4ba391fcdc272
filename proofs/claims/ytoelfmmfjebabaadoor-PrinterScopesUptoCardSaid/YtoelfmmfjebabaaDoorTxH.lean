/- Layer 2: names between two colons. -/
import Derived.Test.YtoelfmmfjebabaaDoorTxG
namespace Go.Proofs.YtoelfmmfjebabaaDoor
open Go Go.Eng
open Int renaming reduceEq → Za, reduceToNat → Zm, reduceLE → Zn, reduceLT → Zo, reduceAdd → Zp, reduceSub → Zq, reduceNeg → Zr, reducePow → Zt, reduceNegSucc → Zv
open UInt8 renaming reduceOfNat → Zb
open List renaming mapM_cons → Zc, mapM_nil → Zd
open Nat renaming reduceAdd → Ze, reduceMul → Zf, reduceMod → Zg, reduceDiv → Zh, reduceEqDiff → Zi, reduceBEq → Zj, reduceLeDiff → Zk, reduceSub → Zl, reducePow → Zs, reduceLT → Zu
set_option linter.unusedSimpArgs false
set_option linter.unusedVariables false
set_option maxRecDepth 20000

def cc : List UInt8 := [58, 58]
/-- The pieces between two colons. -/
def pieces (s : List UInt8) : List (List UInt8) := Go.Lib.splitK cc 0 (Go.Lib.count s cc) s
def pathB (s : List UInt8) : Bool := (pieces s).all nameB
theorem pathB_miss {s : List UInt8} (h : Go.Lib.index s cc = -1) : pathB s = nameB s := by
  unfold pathB pieces
  rw [Go.Lib.count_miss h]; simp [Go.Lib.splitK]
theorem pathB_hit {s : List UInt8} {i : Nat} (h : Go.Lib.index s cc = i) : pathB s = (nameB (s.take i) && pathB (s.drop (i + 2))) := by
  unfold pathB pieces
  rw [Go.Lib.count_hit (by decide) h, Nat.add_comm, Go.Lib.splitK, if_neg (by rw [h]; simp), h]
  rfl
/-- What is known of a variable that the library reads: some number. -/
def HasM (F : Base) : Prop := ∃ c T fz m, F 1 = some (.cells c T fz) ∧ c[0]? = some (.int .i64 m)
theorem HasM.mono {F F' : Base} (h : HasM F) (hF : ∀ b o, F b = some o → F' b = some o) : HasM F' := by
  obtain ⟨c, T, fz, m, h1, h2⟩ := h; exact ⟨c, T, fz, m, hF _ _ h1, h2⟩
theorem split_does (F : Base) (hg : HasM F) (s : List UInt8) (hs : s.length < 4294967281) :
    Does Tryd.prog F 60 #[.string (bs s), .string (bs [58, 58])] [] (fun r H' => ∃ b, r = .slice (some ⟨b, 0, none⟩) (pieces s).length (pieces s).length ∧ H' = [(b, .cells ((pieces s).map fun x => Value.string (bs x)).toArray 9 (0, 0))]) := by
  intro w1 hw1 w hs1
  obtain ⟨c, T, fz, m, h1, h2⟩ := hg
  have hb := hs1.base _ _ h1
  have hc : w.cell? ⟨1, 0, none⟩ = some (.int .i64 m) := by simp [World.cell?, hb, h2]
  have hlen : (Go.Lib.splitB (bs cc) 0 (Go.Lib.countB (bs s) (bs cc)) (bs s)).length = (pieces s).length := by
    have := Go.Lib.splitB_data (bs cc) 0 (Go.Lib.countB (bs s) (bs cc)) (bs s)
    have h3 := congrArg List.length this
    rw [List.length_map] at h3
    exact h3
  have hn : Go.Lib.countB (bs s) (bs cc) + 1 = (pieces s).length := by
    rw [← hlen]; exact (Go.Lib.splitB_all (bs cc) (by decide) 0 _ (bs s) rfl).symm
  have hmap : (Go.Lib.splitB (bs cc) 0 (Go.Lib.countB (bs s) (bs cc)) (bs s)).map Value.string = (pieces s).map fun x => Value.string (bs x) := by
    have h3 : pieces s = (Go.Lib.splitB (bs cc) 0 (Go.Lib.countB (bs s) (bs cc)) (bs s)).map (·.data.toList) := (Go.Lib.splitB_data (bs cc) 0 _ (bs s)).symm
    rw [h3, List.map_map]; rfl
  refine (Tryd.strings_Split (bs s) (bs cc) m w hs hc (by decide)).mono ?_
  rintro e w' ⟨rfl, rfl⟩
  rw [hn, hmap]
  exact ⟨_, [(w.heap.size, _)], rfl, hs1.new _, w.heap.size, rfl, rfl⟩
theorem getD_str {l : List (List UInt8)} {i : Nat} (h : i < l.length) : ((l.map fun x => Value.string (bs x)).drop i).take 1 = [Value.string (bs (l.getD i []))] := by
  rw [List.drop_eq_getElem_cons (by simpa using h), List.take_succ_cons, List.take_zero, List.getElem_map, List.getD_eq_getElem?_getD, List.getElem?_eq_getElem h]; rfl
theorem pieces_le (s : List UInt8) : (pieces s).length ≤ s.length + 2 := by
  have h1 := Go.Lib.splitB_data (bs cc) 0 (Go.Lib.countB (bs s) (bs cc)) (bs s)
  have h3 := congrArg List.length h1
  rw [List.length_map] at h3
  have h4 := Go.Lib.splitB_length_le (bs cc) 0 (Go.Lib.countB (bs s) (bs cc)) (bs s)
  have h5 := Go.Lib.count_le s cc
  have h6 : Go.Lib.countB (bs s) (bs cc) = Go.Lib.count s cc := rfl
  show (Go.Lib.splitK cc 0 (Go.Lib.count s cc) s).length ≤ _
  have h7 : (Go.Lib.splitK cc 0 (Go.Lib.count s cc) s).length = (Go.Lib.splitB (bs cc) 0 (Go.Lib.countB (bs s) (bs cc)) (bs s)).length := h3.symm
  omega
theorem piece_le (s : List UInt8) : ∀ x ∈ pieces s, x.length ≤ s.length := by
  have key : ∀ (k : Nat) (s : List UInt8), ∀ x ∈ Go.Lib.splitK cc 0 k s, x.length ≤ s.length := by
    intro k
    induction k with
    | zero => intro s x hx; simp [Go.Lib.splitK] at hx; subst hx; exact Nat.le_refl _
    | succ k ih =>
      intro s x hx
      rw [Go.Lib.splitK] at hx
      split at hx
      · simp at hx; subst hx; exact Nat.le_refl _
      · rcases List.mem_cons.mp hx with rfl | hx
        · simp only [List.length_take]; omega
        · have := ih _ x hx
          simp only [List.length_drop] at this; omega
  exact key _ s
theorem path_pure (F : Base) (hg : HasM F) (s : List UInt8) (hs : s.length ≤ 1000000000) : PureV Tryd.prog F 46 #[.string (bs s)] (.bool (pathB s)) := by
  refine pureV_of_svcW mixed Tryd.func46 low46 (Nat.le_of_ble_eq_true rfl) (fun w0 hw0 => ?_)
  have hpl := pieces_le s
  have hp1 := piece_le s
  simp (disch := first | assumption | exact Ne.symm (by assumption) | omega) only [fu46, ↓ZD, ZU, ZR, Za, Zb, Zc, Zd, Ze, Zf, Zg, Zh, Zi, Zj, Zk, Zl, Zm, Zn, Zo, Zp, Zq, Zr, reduceIte, reduceCtorEq, Zs, Zt, Zu, Zv]
  refine CallE.news ((split_does F hg s (by omega)).up le_up) ?_
  rintro _ _ ⟨b, rfl, rfl⟩ h1 h2 -
  have hF := h1 _ (List.mem_singleton.2 rfl)
  simp only at hF
  unfold pathB
  generalize pieces s = P at *
  simp (disch := first | assumption | exact Ne.symm (by assumption) | omega) only [hF, ↓ZD, ZU, ZR, Za, Zb, Zc, Zd, Ze, Zf, Zg, Zh, Zi, Zj, Zk, Zl, Zm, Zn, Zo, Zp, Zq, Zr, reduceIte, reduceCtorEq, Zs, Zt, Zu, Zv]
  refine LoopL.inv (fun (i : Nat) => i ≤ P.length ∧ (P.take i).all nameB = true) (fun i => [(6, some (.slice (some ⟨b, 0, none⟩) P.length P.length)), (7, some (.int .i64 P.length)), (8, some (.int .i64 i))]) (fun i => [(b, .cells (P.map fun x => Value.string (bs x)).toArray 9 (0, 0))]) (fun i => P.length - i) (0) (⟨Nat.zero_le _, rfl⟩) (by (simp only [Le_nil, Le_cons]; simp (disch := first | assumption | exact Ne.symm (by assumption) | omega) only [↓ZD, ZU, ZR, Za, Zb, Zc, Zd, Ze, Zf, Zg, Zh, Zi, Zj, Zk, Zl, Zm, Zn, Zo, Zp, Zq, Zr, reduceIte, reduceCtorEq, Zs, Zt, Zu, Zv]; try trivial)) (by (simp only [HLe_nil, HLe_cons]; try (simp (disch := first | assumption | exact Ne.symm (by assumption) | omega) only [↓ZD, ZU, ZR, Za, Zb, Zc, Zd, Ze, Zf, Zg, Zh, Zi, Zj, Zk, Zl, Zm, Zn, Zo, Zp, Zq, Zr, reduceIte, reduceCtorEq, Zs, Zt, Zu, Zv]))) ?_
  rintro i ⟨hi, ha⟩
  by_cases hlt : i < P.length
  · have hd : decide ((i : Int) < (P.length : Int)) = true := by simp; omega
    have hgs := getD_str hlt
    have hmem : P[i]? = some (P.getD i []) := by rw [List.getD_eq_getElem?_getD, List.getElem?_eq_getElem hlt]; rfl
    have hlen := hp1 _ (List.mem_of_getElem? hmem)
    have htk : P.take (i + 1) = P.take i ++ [P.getD i []] := by
      rw [List.take_succ_eq_append_getElem hlt]; congr; simp [hlt]
    simp (disch := first | assumption | exact Ne.symm (by assumption) | omega) only [hF, hd, ↓ZD, ZU, ZR, Za, Zb, Zc, Zd, Ze, Zf, Zg, Zh, Zi, Zj, Zk, Zl, Zm, Zn, Zo, Zp, Zq, Zr, reduceIte, reduceCtorEq, Zs, Zt, Zu, Zv]
    refine conj.of (by omega) ?_
    have hle : i + 1 ≤ P.length := hlt
    simp (disch := first | assumption | exact Ne.symm (by assumption) | omega) only [hF, Int.toNat_natCast, Nat.mul_one, List.length_map, hle, hgs, ↓ZD, ZU, ZR, Za, Zb, Zc, Zd, Ze, Zf, Zg, Zh, Zi, Zj, Zk, Zl, Zm, Zn, Zo, Zp, Zq, Zr, reduceIte, reduceCtorEq, Zs, Zt, Zu, Zv]
    refine CallE.pure (name_pure F _ (by omega)) ?_
    simp (disch := first | assumption | exact Ne.symm (by assumption) | omega) only [hF, ↓ZD, ZU, ZR, Za, Zb, Zc, Zd, Ze, Zf, Zg, Zh, Zi, Zj, Zk, Zl, Zm, Zn, Zo, Zp, Zq, Zr, reduceIte, reduceCtorEq, Zs, Zt, Zu, Zv]
    refine ⟨fun hc => ?_, fun hc => ?_⟩
    · have : P.all nameB = false := by
        rw [List.all_eq_false]; exact ⟨_, List.mem_of_getElem? hmem, by simpa using hc⟩
      rw [this]
    · have : (P.take (i + 1)).all nameB = true := by rw [htk, List.all_append, ha]; simpa using hc
      refine invK.on (i + 1) (⟨by omega, this⟩) (by omega) (by (simp only [Le_nil, Le_cons]; simp (disch := first | assumption | exact Ne.symm (by assumption) | omega) only [hF, ↓ZD, ZU, ZR, Za, Zb, Zc, Zd, Ze, Zf, Zg, Zh, Zi, Zj, Zk, Zl, Zm, Zn, Zo, Zp, Zq, Zr, reduceIte, reduceCtorEq, Zs, Zt, Zu, Zv]; try trivial)) (by (simp only [HLe_nil, HLe_cons]; try (simp (disch := first | assumption | exact Ne.symm (by assumption) | omega) only [hF, ↓ZD, ZU, ZR, Za, Zb, Zc, Zd, Ze, Zf, Zg, Zh, Zi, Zj, Zk, Zl, Zm, Zn, Zo, Zp, Zq, Zr, reduceIte, reduceCtorEq, Zs, Zt, Zu, Zv])))
  · have hd : decide ((i : Int) < (P.length : Int)) = false := by simp; omega
    have : i = P.length := by omega
    subst this
    rw [List.take_length] at ha
    simp (disch := first | assumption | exact Ne.symm (by assumption) | omega) only [hd, ha, ↓ZD, ZU, ZR, Za, Zb, Zc, Zd, Ze, Zf, Zg, Zh, Zi, Zj, Zk, Zl, Zm, Zn, Zo, Zp, Zq, Zr, reduceIte, reduceCtorEq, Zs, Zt, Zu, Zv]
end Go.Proofs.YtoelfmmfjebabaaDoor
