/- Layer 10: the printer: a strings.Builder that stands in a struct of one's own: its contracts. -/
import Derived.Test.YtoelfmmfjebabaaDoorPnA
namespace Go.Proofs.YtoelfmmfjebabaaDoor
open Go Go.Eng
open Int renaming reduceEq → Za, reduceToNat → Zm, reduceLE → Zn, reduceLT → Zo, reduceAdd → Zp, reduceSub → Zq, reduceNeg → Zr, reducePow → Zt, reduceNegSucc → Zv
open UInt8 renaming reduceOfNat → Zb
open List renaming mapM_cons → Zc, mapM_nil → Zd
open Nat renaming reduceAdd → Ze, reduceMul → Zf, reduceMod → Zg, reduceDiv → Zh, reduceEqDiff → Zi, reduceBEq → Zj, reduceLeDiff → Zk, reduceSub → Zl, reducePow → Zs, reduceLT → Zu
set_option linter.unusedSimpArgs false
set_option linter.unusedVariables false
set_option maxRecDepth 20000

abbrev Str := List UInt8
theorem pr_lies : liesAt Tryd.prog Tryd.prog.depth 57 (3 / Tryd.prog.cellsOf 57) 0 55 1 = true := by kernel_rfl
section
open Go.Proofs Go.Shelf Go.RowKit
set_option maxHeartbeats 1000000 in
theorem pcheck_fresh (b : Nat) (w : World) (h0 : w.cell? ⟨b, 0, none⟩ = some (.pointer none)) (hsh : w.shape? b = some (57, 3)) (hfz : w.frozen? ⟨b, 0, none⟩ = false) :
    Calls Tryd.prog 58 #[.pointer (some ⟨b, 0, none⟩)] w fun e w' => e = .returned (.tuple #[]) ∧ w' = w.setCell ⟨b, 0, none⟩ (.pointer (some ⟨b, 0, none⟩)) := by
  obtain ⟨j, hj, hjs⟩ := Option.map_eq_some_iff.1 bi_size
  go_enter Tryd.func58, Tryd.ntmps58
  go_wp2
  rw [Lib.run_to_unsafe w ⟨b, 0, none⟩ Tryd.underlying52 Tryd.underlying98 hj (by rw [hjs]; decide) hsh (Nat.zero_lt_succ 2)]
  simp only [Result.andThen]
  rw [Oper.upon_value]
  go_wp2
  rw [run_callFunc_extern Tryd.func63 (by kernel_rfl) (by kernel_rfl) (by kernel_rfl) (e := Extern.AbiNoEscape.same) (by kernel_rfl)]
  rw [Lib.run_noEscape]
  simp only [Result.andThen]
  rw [Oper.upon_value]
  go_wp2
  rw [Lib.run_from_unsafe w ⟨b, 0, none⟩ Tryd.underlying98 Tryd.underlying52 hj hsh pr_lies]
  simp only [Result.andThen]
  rw [Oper.upon_value]
  go_wp2
  go_end0
  exact ⟨rfl, rfl⟩
end
/-- A printer's block. -/
abbrev PrO (p v : Value) (bad : Bool) : Obj := .cells #[p, v, .bool bad] 57 (0, 0)
theorem pcheck_does (F : Base) (b : Nat) (p v : Value) (bad : Bool) (Ho : Hp) (hp : p = .pointer none ∨ p = .pointer (some ⟨b, 0, none⟩)) (hd : ∀ e ∈ Ho, e.1 ≠ b) :
    Does Tryd.prog F 58 #[.pointer (some ⟨b, 0, none⟩)] ((b, PrO p v bad) :: Ho) (fun r H' => r = .tuple #[] ∧ H' = (b, PrO (.pointer (some ⟨b, 0, none⟩)) v bad) :: Ho) := by
  intro w1 hw1 w hs
  have hb := hs.own _ List.mem_cons_self
  have hc : w.cell? ⟨b, 0, none⟩ = some p := by simp [World.cell?, hb]
  rcases hp with rfl | rfl
  · refine (pcheck_fresh b w hc (by simp [World.shape?, hb]) (by simp [World.frozen?, hb])).mono ?_
    rintro e w' ⟨rfl, rfl⟩
    refine ⟨_, _, rfl, ?_, rfl, rfl⟩
    have := hs.put (b := b) (o := PrO (.pointer (some ⟨b, 0, none⟩)) v bad) (w' := w.setCell ⟨b, 0, none⟩ (.pointer (some ⟨b, 0, none⟩))) ⟨_, List.mem_cons_self⟩ rfl rfl rfl (by simp [World.setCell, Array.getElem?_modify, hb]) (by simp [World.setCell]) (fun k hk => by simp only [World.setCell, Array.getElem?_modify]; rw [if_neg (fun e => hk e.symm)])
    rw [upd_eq, upd_new hd] at this
    exact this
  · refine (check_used b w hc).mono ?_
    rintro e w' ⟨rfl, rfl⟩
    exact ⟨_, _, rfl, hs, rfl, rfl⟩
/-- What a printer's own blocks are: what was written, and whether something may not be told. -/
def Pst (F : Base) (b : Nat) (s : Str) (bad : Bool) (H : Hp) : Prop :=
  ∃ p v Ho, (p = .pointer none ∨ p = .pointer (some ⟨b, 0, none⟩)) ∧ OwnS F 1 5 (byteCells s) s.length v Ho ∧ (∀ e ∈ Ho, e.1 ≠ b) ∧ F b = none ∧ H = (b, PrO p v bad) :: Ho
theorem pstr_does (F : Base) (b : Nat) (l s : Str) (bad : Bool) {H0 : Hp} (h : Pst F b l bad H0) (hl : l.length + s.length ≤ 100000000000000) :
    Does Tryd.prog F 44 #[.pointer (some ⟨b, 0, none⟩), .string (bs s)] H0 (fun r H' => r = .tuple #[.int .i64 s.length, .nilIface] ∧ Pst F b (l ++ s) bad H') := by
  obtain ⟨p, v, Ho, hp, ho, hd, hb, rfl⟩ := h
  refine Does.shr (K := fun r H' => r = .tuple #[.int .i64 s.length, .nilIface] ∧ ∃ v' Ho', OwnS F 1 5 (byteCells (l ++ s)) (l ++ s).length v' Ho' ∧ (∀ e ∈ Ho', e.1 ≠ b) ∧ ∀ e ∈ (b, PrO (.pointer (some ⟨b, 0, none⟩)) v' bad) :: Ho', e ∈ H') ?_ (fun r H' ⟨h1, v', Ho', h2, h3, h4⟩ => ⟨_, h4, h1, _, v', Ho', .inr rfl, h2, h3, hb, rfl⟩)
  refine does_of_svc mixed Tryd.func44 low44 (Nat.le_of_ble_eq_true rfl) (fun w0 hw0 => ?_)
  simp (disch := first | assumption | exact Ne.symm (by assumption) | omega) only [fu44, ↓ZD, ZU, ZR, Za, Zb, Zc, Zd, Ze, Zf, Zg, Zh, Zi, Zj, Zk, Zl, Zm, Zn, Zo, Zp, Zq, Zr, reduceIte, reduceCtorEq, Zs, Zt, Zu, Zv]
  refine CallE.does ((b, PrO p v bad) :: Ho) [] (pcheck_does F b p v bad Ho hp hd) (fun _ _ h => by simp [rdObj, h]) (fun e h => h) (fun e h => by cases h) (fun e h => by cases h) ?_
  rintro _ _ ⟨rfl, rfl⟩ h1 h2 h3
  simp (disch := first | assumption | exact Ne.symm (by assumption) | omega) only [hb, ↓ZD, ZU, ZR, Za, Zb, Zc, Zd, Ze, Zf, Zg, Zh, Zi, Zj, Zk, Zl, Zm, Zn, Zo, Zp, Zq, Zr, reduceIte, reduceCtorEq, Zs, Zt, Zu, Zv]
  by_cases hs0 : s = []
  · subst hs0
    obtain ⟨base, cap, rfl, hcap⟩ := ho.len_le
    refine EfL.zero (by rw [rowsOf_str]; rfl) hcap ?_
    simp (disch := first | assumption | exact Ne.symm (by assumption) | omega) only [hb, ↓ZD, ZU, ZR, Za, Zb, Zc, Zd, Ze, Zf, Zg, Zh, Zi, Zj, Zk, Zl, Zm, Zn, Zo, Zp, Zq, Zr, reduceIte, reduceCtorEq, Zs, Zt, Zu, Zv]
    exact ⟨_, _, by simpa using ho, hd, fun e h => by rw [upd_new hd]; exact h⟩
  · refine EfL.grow (Hr := [(b, PrO (.pointer (some ⟨b, 0, none⟩)) v bad)]) (m := s.length) (nw := byteCells s) ho (ho.lk [_] (by simp only [List.forall_mem_cons, List.not_mem_nil, false_implies, implies_true, and_true]; exact hd)) (by simp) (by simp only [List.forall_mem_cons, List.not_mem_nil, false_implies, implies_true, and_true]; exact hd) rowsOf_str (by simp [byteCells_len]) (by simp [byteCells, oneCell]) (by simpa [byteCells] using hs0) (by omega) ?_
    intro b2 cap sp hs hc hcm hF2 hne
    simp only [List.forall_mem_cons] at hne
    simp (disch := first | assumption | exact Ne.symm (by assumption) | omega) only [hb, hF2, ↓ZD, ZU, ZR, Za, Zb, Zc, Zd, Ze, Zf, Zg, Zh, Zi, Zj, Zk, Zl, Zm, Zn, Zo, Zp, Zq, Zr, reduceIte, reduceCtorEq, Zs, Zt, Zu, Zv]
    refine ⟨_, _, .own b2 cap sp _ _ hF2 (by simp [byteCells]) (by simpa using hs) (by simpa using hc) hcm, by simpa using fun e => hne.1 e.symm, ?_⟩
    simp [byteCells_app, byteCells]
theorem must_does (F : Base) (b : Nat) (l : Str) (bad is : Bool) {H0 : Hp} (h : Pst F b l bad H0) :
    Does Tryd.prog F 23 #[.pointer (some ⟨b, 0, none⟩), .bool is] H0 (fun r H' => r = .tuple #[] ∧ Pst F b l (bad || !is) H') := by
  obtain ⟨p, v, Ho, hp, ho, hd, hb, rfl⟩ := h
  refine does_of_svc mixed Tryd.func23 low23 (Nat.le_of_ble_eq_true rfl) (fun w0 hw0 => ?_)
  simp (disch := first | assumption | exact Ne.symm (by assumption) | omega) only [fu23, hb, ↓ZD, ZU, ZR, Za, Zb, Zc, Zd, Ze, Zf, Zg, Zh, Zi, Zj, Zk, Zl, Zm, Zn, Zo, Zp, Zq, Zr, reduceIte, reduceCtorEq, Zs, Zt, Zu, Zv]
  refine ⟨p, v, Ho, hp, ho, hd, hb, ?_⟩
  rw [upd_new hd]
end Go.Proofs.YtoelfmmfjebabaaDoor
