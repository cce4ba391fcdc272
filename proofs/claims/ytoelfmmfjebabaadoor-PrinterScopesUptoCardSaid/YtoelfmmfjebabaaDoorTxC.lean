/- A strings.Builder of one's own: its contracts. -/
import Derived.Test.YtoelfmmfjebabaaDoorTxB
import Derived.Test.YtoelfmmfjebabaaDoorShelf
import Derived.Shelf.Strings.Builder1
namespace Go.Proofs.YtoelfmmfjebabaaDoor
open Go Go.Eng
open Int renaming reduceEq → Za, reduceToNat → Zm, reduceLE → Zn, reduceLT → Zo, reduceAdd → Zp, reduceSub → Zq, reduceNeg → Zr, reducePow → Zt, reduceNegSucc → Zv
open UInt8 renaming reduceOfNat → Zb
open List renaming mapM_cons → Zc, mapM_nil → Zd
open Nat renaming reduceAdd → Ze, reduceMul → Zf, reduceMod → Zg, reduceDiv → Zh, reduceEqDiff → Zi, reduceBEq → Zj, reduceLeDiff → Zk, reduceSub → Zl, reducePow → Zs, reduceLT → Zu
set_option linter.unusedSimpArgs false
set_option linter.unusedVariables false
set_option maxRecDepth 20000

theorem bi_size : (Tryd.prog.info? 55).map (·.size) = some 2 := by kernel_rfl
theorem bi_lies : liesAt Tryd.prog Tryd.prog.depth 55 (2 / Tryd.prog.cellsOf 55) 0 55 1 = true := by kernel_rfl
section
open Go.Proofs Go.Shelf Go.RowKit
set_option maxHeartbeats 1000000 in
theorem check_used (b : Nat) (w : World) (h0 : w.cell? ⟨b, 0, none⟩ = some (.pointer (some ⟨b, 0, none⟩))) :
    Calls Tryd.prog 58 #[.pointer (some ⟨b, 0, none⟩)] w fun e w' => e = .returned (.tuple #[]) ∧ w' = w := by
  obtain ⟨j, hj, _⟩ := Option.map_eq_some_iff.1 bi_size
  go_enter Tryd.func58, Tryd.ntmps58
  go_wp2
  rw [Lib.run_neq_ptr_same w _ Tryd.underlying52 hj]
  go_wp2
  go_end0
  exact ⟨rfl, rfl⟩
set_option maxHeartbeats 1000000 in
theorem check_fresh (b : Nat) (w : World) (h0 : w.cell? ⟨b, 0, none⟩ = some (.pointer none)) (hsh : w.shape? b = some (55, 2)) (hfz : w.frozen? ⟨b, 0, none⟩ = false) :
    Calls Tryd.prog 58 #[.pointer (some ⟨b, 0, none⟩)] w fun e w' => e = .returned (.tuple #[]) ∧ w' = w.setCell ⟨b, 0, none⟩ (.pointer (some ⟨b, 0, none⟩)) := by
  obtain ⟨j, hj, hjs⟩ := Option.map_eq_some_iff.1 bi_size
  go_enter Tryd.func58, Tryd.ntmps58
  go_wp2
  rw [Lib.run_to_unsafe w ⟨b, 0, none⟩ Tryd.underlying52 Tryd.underlying98 hj (by rw [hjs]; decide) hsh (Nat.zero_lt_succ 1)]
  simp only [Result.andThen]
  rw [Oper.upon_value]
  go_wp2
  rw [run_callFunc_extern Tryd.func63 (by kernel_rfl) (by kernel_rfl) (by kernel_rfl) (e := Extern.AbiNoEscape.same) (by kernel_rfl)]
  rw [Lib.run_noEscape]
  simp only [Result.andThen]
  rw [Oper.upon_value]
  go_wp2
  rw [Lib.run_from_unsafe w ⟨b, 0, none⟩ Tryd.underlying98 Tryd.underlying52 hj hsh bi_lies]
  simp only [Result.andThen]
  rw [Oper.upon_value]
  go_wp2
  go_end0
  exact ⟨rfl, rfl⟩
end
/-- A builder's block. -/
abbrev BuiO (p v : Value) : Obj := .cells #[p, v] 55 (0, 0)
theorem check_does (F : Base) (b : Nat) (p v : Value) (Ho : Hp) (hp : p = .pointer none ∨ p = .pointer (some ⟨b, 0, none⟩)) (hd : ∀ e ∈ Ho, e.1 ≠ b) :
    Does Tryd.prog F 58 #[.pointer (some ⟨b, 0, none⟩)] ((b, BuiO p v) :: Ho) (fun r H' => r = .tuple #[] ∧ H' = (b, BuiO (.pointer (some ⟨b, 0, none⟩)) v) :: Ho) := by
  intro w1 hw1 w hs
  have hb := hs.own _ List.mem_cons_self
  have hc : w.cell? ⟨b, 0, none⟩ = some p := by simp [World.cell?, hb]
  rcases hp with rfl | rfl
  · refine (check_fresh b w hc (by simp [World.shape?, hb]) (by simp [World.frozen?, hb])).mono ?_
    rintro e w' ⟨rfl, rfl⟩
    refine ⟨_, _, rfl, ?_, rfl, rfl⟩
    have := hs.put (b := b) (o := BuiO (.pointer (some ⟨b, 0, none⟩)) v) (w' := w.setCell ⟨b, 0, none⟩ (.pointer (some ⟨b, 0, none⟩))) ⟨_, List.mem_cons_self⟩ rfl rfl rfl (by simp [World.setCell, Array.getElem?_modify, hb]) (by simp [World.setCell]) (fun k hk => by simp only [World.setCell, Array.getElem?_modify]; rw [if_neg (fun e => hk e.symm)])
    rw [upd_eq, upd_new hd] at this
    exact this
  · refine (check_used b w hc).mono ?_
    rintro e w' ⟨rfl, rfl⟩
    exact ⟨_, _, rfl, hs, rfl, rfl⟩
/-- What stands behind a write. -/
def BuiPost (F : Base) (b : Nat) (l : List UInt8) (H' : Hp) : Prop := ∃ v Ho, OwnS F 1 5 (byteCells l) l.length v Ho ∧ (∀ e ∈ Ho, e.1 ≠ b) ∧ H' = (b, BuiO (.pointer (some ⟨b, 0, none⟩)) v) :: Ho
theorem wbyte_does (F : Base) (b : Nat) (p v : Value) (Ho : Hp) (l : List UInt8) (c : UInt8) (hp : p = .pointer none ∨ p = .pointer (some ⟨b, 0, none⟩)) (hb : F b = none) (hd : ∀ e ∈ Ho, e.1 ≠ b)
    (ho : OwnS F 1 5 (byteCells l) l.length v Ho) (hl : l.length ≤ 100000000000000) :
    Does Tryd.prog F 49 #[.pointer (some ⟨b, 0, none⟩), .int .u8 c.toNat] ((b, BuiO p v) :: Ho) (fun r H' => r = .nilIface ∧ BuiPost F b (l ++ [c]) H') := by
  refine Does.shr (K := fun r H' => r = .nilIface ∧ ∃ v' Ho', OwnS F 1 5 (byteCells (l ++ [c])) (l ++ [c]).length v' Ho' ∧ (∀ e ∈ Ho', e.1 ≠ b) ∧ ∀ e ∈ (b, BuiO (.pointer (some ⟨b, 0, none⟩)) v') :: Ho', e ∈ H') ?_ (fun r H' ⟨h1, v', Ho', h2, h3, h4⟩ => ⟨_, h4, h1, v', Ho', h2, h3, rfl⟩)
  refine does_of_svc mixed Tryd.func49 low49 (Nat.le_of_ble_eq_true rfl) (fun w0 hw0 => ?_)
  simp (disch := first | assumption | exact Ne.symm (by assumption) | omega) only [fu49, ↓ZD, ZU, ZR, Za, Zb, Zc, Zd, Ze, Zf, Zg, Zh, Zi, Zj, Zk, Zl, Zm, Zn, Zo, Zp, Zq, Zr, reduceIte, reduceCtorEq, Zs, Zt, Zu, Zv]
  refine CallE.does ((b, BuiO p v) :: Ho) [] (check_does F b p v Ho hp hd) (fun _ _ h => by simp [rdObj, h]) (fun e h => h) (fun e h => by cases h) (fun e h => by cases h) ?_
  rintro _ _ ⟨rfl, rfl⟩ h1 h2 h3
  simp (disch := first | assumption | exact Ne.symm (by assumption) | omega) only [hb, ↓ZD, ZU, ZR, Za, Zb, Zc, Zd, Ze, Zf, Zg, Zh, Zi, Zj, Zk, Zl, Zm, Zn, Zo, Zp, Zq, Zr, reduceIte, reduceCtorEq, Zs, Zt, Zu, Zv]
  refine NewB.of fun b1 hb1 hF1 => ?_
  simp only [List.forall_mem_cons] at hb1
  simp (disch := first | assumption | exact Ne.symm (by assumption) | omega) only [hb, hF1, ↓ZD, ZU, ZR, Za, Zb, Zc, Zd, Ze, Zf, Zg, Zh, Zi, Zj, Zk, Zl, Zm, Zn, Zo, Zp, Zq, Zr, reduceIte, reduceCtorEq, Zs, Zt, Zu, Zv]
  refine EfL.grow (Hr := [(b, BuiO (.pointer (some ⟨b, 0, none⟩)) v)]) (m := 1) (nw := [.int .u8 c.toNat]) ho (ho.lk [_, _] (by simp only [List.forall_mem_cons, List.not_mem_nil, false_implies, implies_true, and_true]; exact ⟨hb1.2, hd⟩)) (by simp) (by simp only [List.forall_mem_cons, List.not_mem_nil, false_implies, implies_true, and_true]; exact hd) ?_ rfl (by simp [oneCell]) (by simp) (by omega) ?_
  · simp (disch := first | assumption | exact Ne.symm (by assumption) | omega) only [hb, hF1, ↓ZD, ZU, ZR, Za, Zb, Zc, Zd, Ze, Zf, Zg, Zh, Zi, Zj, Zk, Zl, Zm, Zn, Zo, Zp, Zq, Zr, reduceIte, reduceCtorEq, Zs, Zt, Zu, Zv]
  intro b2 cap sp hs hc hcm hF2 hne
  simp only [List.forall_mem_cons] at hne
  simp (disch := first | assumption | exact Ne.symm (by assumption) | omega) only [hb, hF2, ↓ZD, ZU, ZR, Za, Zb, Zc, Zd, Ze, Zf, Zg, Zh, Zi, Zj, Zk, Zl, Zm, Zn, Zo, Zp, Zq, Zr, reduceIte, reduceCtorEq, Zs, Zt, Zu, Zv]
  refine ⟨_, _, .own b2 cap sp _ _ hF2 (by simp [byteCells]) (by simpa using hs) (by simpa using hc) hcm, by simpa using fun e => hne.1 e.symm, ?_⟩
  simp [byteCells_app, byteCells]
theorem wstr_does (F : Base) (b : Nat) (p v : Value) (Ho : Hp) (l s : List UInt8) (hp : p = .pointer none ∨ p = .pointer (some ⟨b, 0, none⟩)) (hb : F b = none) (hd : ∀ e ∈ Ho, e.1 ≠ b)
    (ho : OwnS F 1 5 (byteCells l) l.length v Ho) (hl : l.length + s.length ≤ 100000000000000) :
    Does Tryd.prog F 44 #[.pointer (some ⟨b, 0, none⟩), .string (bs s)] ((b, BuiO p v) :: Ho) (fun r H' => r = .tuple #[.int .i64 s.length, .nilIface] ∧ BuiPost F b (l ++ s) H') := by
  refine Does.shr (K := fun r H' => r = .tuple #[.int .i64 s.length, .nilIface] ∧ ∃ v' Ho', OwnS F 1 5 (byteCells (l ++ s)) (l ++ s).length v' Ho' ∧ (∀ e ∈ Ho', e.1 ≠ b) ∧ ∀ e ∈ (b, BuiO (.pointer (some ⟨b, 0, none⟩)) v') :: Ho', e ∈ H') ?_ (fun r H' ⟨h1, v', Ho', h2, h3, h4⟩ => ⟨_, h4, h1, v', Ho', h2, h3, rfl⟩)
  refine does_of_svc mixed Tryd.func44 low44 (Nat.le_of_ble_eq_true rfl) (fun w0 hw0 => ?_)
  simp (disch := first | assumption | exact Ne.symm (by assumption) | omega) only [fu44, ↓ZD, ZU, ZR, Za, Zb, Zc, Zd, Ze, Zf, Zg, Zh, Zi, Zj, Zk, Zl, Zm, Zn, Zo, Zp, Zq, Zr, reduceIte, reduceCtorEq, Zs, Zt, Zu, Zv]
  refine CallE.does ((b, BuiO p v) :: Ho) [] (check_does F b p v Ho hp hd) (fun _ _ h => by simp [rdObj, h]) (fun e h => h) (fun e h => by cases h) (fun e h => by cases h) ?_
  rintro _ _ ⟨rfl, rfl⟩ h1 h2 h3
  simp (disch := first | assumption | exact Ne.symm (by assumption) | omega) only [hb, ↓ZD, ZU, ZR, Za, Zb, Zc, Zd, Ze, Zf, Zg, Zh, Zi, Zj, Zk, Zl, Zm, Zn, Zo, Zp, Zq, Zr, reduceIte, reduceCtorEq, Zs, Zt, Zu, Zv]
  by_cases hs0 : s = []
  · subst hs0
    obtain ⟨base, cap, rfl, hcap⟩ := ho.len_le
    refine EfL.zero (by rw [rowsOf_str]; rfl) hcap ?_
    simp (disch := first | assumption | exact Ne.symm (by assumption) | omega) only [hb, ↓ZD, ZU, ZR, Za, Zb, Zc, Zd, Ze, Zf, Zg, Zh, Zi, Zj, Zk, Zl, Zm, Zn, Zo, Zp, Zq, Zr, reduceIte, reduceCtorEq, Zs, Zt, Zu, Zv]
    exact ⟨_, _, by simpa using ho, hd, fun e h => by rw [upd_new hd]; exact h⟩
  · refine EfL.grow (Hr := [(b, BuiO (.pointer (some ⟨b, 0, none⟩)) v)]) (m := s.length) (nw := byteCells s) ho (ho.lk [_] (by simp only [List.forall_mem_cons, List.not_mem_nil, false_implies, implies_true, and_true]; exact hd)) (by simp) (by simp only [List.forall_mem_cons, List.not_mem_nil, false_implies, implies_true, and_true]; exact hd) rowsOf_str (by simp [byteCells_len]) (by simp [byteCells, oneCell]) (by simpa [byteCells] using hs0) (by omega) ?_
    intro b2 cap sp hs hc hcm hF2 hne
    simp only [List.forall_mem_cons] at hne
    simp (disch := first | assumption | exact Ne.symm (by assumption) | omega) only [hb, hF2, ↓ZD, ZU, ZR, Za, Zb, Zc, Zd, Ze, Zf, Zg, Zh, Zi, Zj, Zk, Zl, Zm, Zn, Zo, Zp, Zq, Zr, reduceIte, reduceCtorEq, Zs, Zt, Zu, Zv]
    refine ⟨_, _, .own b2 cap sp _ _ hF2 (by simp [byteCells]) (by simpa using hs) (by simpa using hc) hcm, by simpa using fun e => hne.1 e.symm, ?_⟩
    simp [byteCells_app, byteCells]
theorem bstring_call {F : Base} {w0 : World} (hw0 : ∀ b o, F b = some o → w0.heap[b]? = some o) {H : Hp} {K : Value → Hp → Prop} (b : Nat) (p v : Value) (Ho : Hp) (l : List UInt8) (h1 : (b, BuiO p v) ∈ H) (h2 : ∀ e ∈ Ho, e ∈ H) (hd : ∀ e ∈ Ho, e.1 ≠ b) (hp : p = .pointer none ∨ p = .pointer (some ⟨b, 0, none⟩))
    (ho : OwnS F 1 5 (byteCells l) l.length v Ho) (hk : K (.string (bs l)) []) : CallG Tryd.prog [] F w0 16 #[.pointer (some ⟨b, 0, none⟩)] H K := by
  intro w hs
  have hB : ∀ e ∈ H, w0.heap.size ≤ e.1 := fun e he => (hs.fresh e he).resolve_left (by simp)
  have hbk := hs.own _ h1
  have hat : Go.Lib.BuilderAt 55 5 w0.heap.size b p (Go.Lib.byteCells l) w := by
    have e : (Go.Lib.byteCells l).length = l.length := by simp [Go.Lib.byteCells]
    refine ⟨hB _ h1, v, hbk, ?_⟩
    rw [e]
    rcases ho.out with ⟨h3, h4, rfl, rfl⟩ | ⟨g, cap, sp, rfl, rfl, hF, hl, hs', hc, hcm⟩
    · exact ⟨⟨by simp [e], .inl ⟨rfl, h4⟩⟩, by simp [Value.ownBlock]⟩
    · have hg := hs.own _ (h2 _ (List.mem_singleton.2 rfl))
      have := hd _ (List.mem_singleton.2 rfl)
      refine ⟨⟨by simp [e], .inr ⟨g, cap, _, rfl, hB _ (h2 _ (List.mem_singleton.2 rfl)), hg, hc, by unfold maxLen; omega, ?_, ?_⟩⟩, by simpa [Value.ownBlock] using this⟩
      · simp only [List.size_toArray, List.length_append, hl, hs']; omega
      · rw [← hl]; simp [byteCells, Go.Lib.byteCells]
  have hib : Go.Lib.IsBuilder 55 5 w0.heap.size b (Go.Lib.byteCells l) w := by
    rcases hp with rfl | rfl
    · exact .inl hat
    · exact .inr hat
  refine (Tryd.Builder_String_any w0.heap.size b l w hib hs.size).mono ?_
  rintro e w' ⟨rfl, hbl⟩
  exact ⟨_, [], rfl, ⟨hbl.os.trans hs.os, hbl.tape.trans hs.tape, hbl.output.trans hs.output, Nat.le_trans hs.size hbl.size, fun b o hb => by
    have h0 := hw0 b o hb
    have hlt : b < w0.heap.size := by
      rcases Nat.lt_or_ge b w0.heap.size with h | h
      · exact h
      · rw [Array.getElem?_eq_none h] at h0; cases h0
    rw [hbl.block b hlt]; exact hs.base b o hb, by simp, by simp, by simp, fun k hk hX => (hbl.block k hk).trans (hs.old k hk hX)⟩, hk⟩
end Go.Proofs.YtoelfmmfjebabaaDoor
