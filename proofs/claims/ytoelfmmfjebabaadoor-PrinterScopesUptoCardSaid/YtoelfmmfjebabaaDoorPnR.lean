/- Layer 10: what a printer holds, as a text. -/
import Derived.Test.YtoelfmmfjebabaaDoorPnC
namespace Go.Proofs.YtoelfmmfjebabaaDoor
open Go Go.Eng
open Int renaming reduceEq → Za, reduceToNat → Zm, reduceLE → Zn, reduceLT → Zo, reduceAdd → Zp, reduceSub → Zq, reduceNeg → Zr, reducePow → Zt, reduceNegSucc → Zv
open UInt8 renaming reduceOfNat → Zb
open List renaming mapM_cons → Zc, mapM_nil → Zd
open Nat renaming reduceAdd → Ze, reduceMul → Zf, reduceMod → Zg, reduceDiv → Zh, reduceEqDiff → Zi, reduceBEq → Zj, reduceLeDiff → Zk, reduceSub → Zl, reducePow → Zs, reduceLT → Zu
set_option linter.unusedSimpArgs false
set_option linter.unusedVariables false
set_option maxRecDepth 20000

section
open Go.Proofs Go.Shelf Go.RowKit
set_option maxHeartbeats 2000000 in
theorem pstring_some (b g cap : Nat) (p : Value) (bad : Bool) (l : Str) (sp : List Value) (w : World) (hb : w.heap[b]? = some (PrO p (.slice (some ⟨g, 0, none⟩) l.length cap) bad)) (hg : w.heap[g]? = some (.cells (byteCells l ++ sp).toArray 5 (0, 0)))
    (h0 : l ≠ []) (hc : l.length ≤ cap) (hm : cap ≤ 9223372036854775807) :
    Calls Tryd.prog 16 #[.pointer (some ⟨b, 0, none⟩)] w fun e w' => e = .returned (.string (bs l)) ∧ w' = w.drew.freeze ⟨g, 0, none⟩ l.length := by
  have hl0 : l.length ≠ 0 := by simpa using h0
  have c1 : w.drew.cell? ⟨b, 1, none⟩ = some (.slice (some ⟨g, 0, none⟩) l.length cap) := by
    have : w.drew.heap[b]? = some (PrO p (.slice (some ⟨g, 0, none⟩) l.length cap) bad) := hb
    rw [Lib.cell_of_heap this]; rfl
  have hSD : (Builtin.unsafeSliceData_ #[53] 75 #[.slice (some ⟨g, 0, none⟩) l.length cap]).run Tryd.prog w.drew = .ok (.pointer (some ⟨g, 0, none⟩)) w.drew :=
    Lib.run_unsafeSliceData_row _ _ _ _ _ _ (by omega)
  have hUS : (Builtin.unsafeString_ #[75, 3] 9 #[.pointer (some ⟨g, 0, none⟩), .int .i64 l.length]).run Tryd.prog w.drew = .ok (.string (bs l)) (w.drew.freeze ⟨g, 0, none⟩ l.length) := by
    have hg' : w.drew.heap[g]? = some (.cells (byteCells l ++ sp).toArray 5 (0, 0)) := hg
    refine Lib.run_unsafeString_row w.drew 75 3 9 5 Tryd.underlying75 (by kernel_rfl) g (byteCells l ++ sp).length (by simp [World.shape?, hg']) l h0 (by simp [byteCells_len]) (by omega) ?_
    intro j x hx
    have hlt : j < l.length := (List.getElem?_eq_some_iff.mp hx).1
    have hx' := (List.getElem?_eq_some_iff.mp hx).2
    have e : (⟨g, 0, none⟩ : Addr).add j = ⟨g, j, none⟩ := by unfold Addr.add; split <;> simp_all
    rw [e]
    simp [World.cell?, hg', byteCells, List.getElem?_append_left, hlt, hx']
  have mixed : Tryd.prog.follows .mixedOrders = true := mixed
  go_enter Tryd.func16, Tryd.ntmps16
  go_wp2
  go_region_o
  all_goals (go_wp2; go_ret; exact ⟨rfl, rfl⟩)
theorem pus_none (W : World) (q : Option Addr) : (Builtin.unsafeString_ #[75, 3] 9 #[.pointer q, .int .i64 0]).run Tryd.prog W = .ok (.string .empty) W := Lib.run_unsafeString_none W _ _ _ q
set_option maxHeartbeats 2000000 in
theorem pstring_nil (b : Nat) (p : Value) (bad : Bool) (w : World) (hb : w.heap[b]? = some (PrO p (.slice none 0 0) bad)) (B : Nat) :
    Calls Tryd.prog 16 #[.pointer (some ⟨b, 0, none⟩)] w fun e w' => e = .returned (.string (bs [])) ∧ Below B w w' := by
  have hUS := pus_none
  have c1 : w.drew.cell? ⟨b, 1, none⟩ = some (.slice none 0 0) := by
    have : w.drew.heap[b]? = some (PrO p (.slice none 0 0) bad) := hb
    rw [Lib.cell_of_heap this]; rfl
  have hSD : (Builtin.unsafeSliceData_ #[53] 75 #[.slice none 0 0]).run Tryd.prog w.drew = .ok (.pointer none) w.drew := rfl
  have mixed : Tryd.prog.follows .mixedOrders = true := mixed
  go_enter Tryd.func16, Tryd.ntmps16
  go_wp2
  go_region_o
  all_goals (go_wp2; go_ret; exact ⟨rfl, Below.drew (Below.refl B w)⟩)
set_option maxHeartbeats 2000000 in
theorem pstring_room (b g cap : Nat) (p : Value) (bad : Bool) (w : World) (hb : w.heap[b]? = some (PrO p (.slice (some ⟨g, 0, none⟩) 0 cap) bad)) (hc : cap ≠ 0) (B : Nat) :
    Calls Tryd.prog 16 #[.pointer (some ⟨b, 0, none⟩)] w fun e w' => e = .returned (.string (bs [])) ∧ Below B w w' := by
  have hUS := pus_none
  have c1 : w.drew.cell? ⟨b, 1, none⟩ = some (.slice (some ⟨g, 0, none⟩) 0 cap) := by
    have : w.drew.heap[b]? = some (PrO p (.slice (some ⟨g, 0, none⟩) 0 cap) bad) := hb
    rw [Lib.cell_of_heap this]; rfl
  have hSD : (Builtin.unsafeSliceData_ #[53] 75 #[.slice (some ⟨g, 0, none⟩) 0 cap]).run Tryd.prog w.drew = .ok (.pointer (some ⟨g, 0, none⟩)) w.drew :=
    Lib.run_unsafeSliceData_row _ _ _ _ _ _ hc
  clear hc
  have mixed : Tryd.prog.follows .mixedOrders = true := mixed
  go_enter Tryd.func16, Tryd.ntmps16
  go_wp2
  go_region_o
  all_goals (go_wp2; go_ret; exact ⟨rfl, Below.drew (Below.refl B w)⟩)
set_option maxHeartbeats 2000000 in
theorem pstring_noroom (b g : Nat) (p : Value) (bad : Bool) (cur : Array Value) (w : World) (hb : w.heap[b]? = some (PrO p (.slice (some ⟨g, 0, none⟩) 0 0) bad)) (hg : w.heap[g]? = some (.cells cur 5 (0, 0))) :
    Calls Tryd.prog 16 #[.pointer (some ⟨b, 0, none⟩)] w fun e w' => e = .returned (.string (bs [])) ∧ Below w.heap.size w w' := by
  have hUS := pus_none
  have hlt : b < w.heap.size := by
    rcases Nat.lt_or_ge b w.heap.size with h' | h'
    · exact h'
    · simp [Array.getElem?_eq_none h'] at hb
  have c1 : w.drew.cell? ⟨b, 1, none⟩ = some (.slice (some ⟨g, 0, none⟩) 0 0) := by
    have : w.drew.heap[b]? = some (PrO p (.slice (some ⟨g, 0, none⟩) 0 0) bad) := hb
    rw [Lib.cell_of_heap this]; rfl
  have hSD : (Builtin.unsafeSliceData_ #[53] 75 #[.slice (some ⟨g, 0, none⟩) 0 0]).run Tryd.prog w.drew = .ok (.pointer (some ⟨w.drew.heap.size, 0, none⟩)) (w.drew.alloc (.view ⟨g, 0, none⟩ 5)) :=
    Lib.run_unsafeSliceData_zero w.drew _ _ 5 Tryd.underlying75 ⟨g, 0, none⟩ 0 (5, cur.size) (by have hg' : w.drew.heap[g]? = some (.cells cur 5 (0, 0)) := hg; simp [World.shape?, hg'])
  have c2 : (w.drew.alloc (.view ⟨g, 0, none⟩ 5)).cell? ⟨b, 1, none⟩ = some (.slice (some ⟨g, 0, none⟩) 0 0) := by
    have : (w.drew.alloc (.view ⟨g, 0, none⟩ 5)).heap[b]? = _ := (Lib.alloc_old w.drew _ b hlt).trans hb
    rw [Lib.cell_of_heap this]; rfl
  have c3 : (w.alloc (.view ⟨g, 0, none⟩ 5)).drew.cell? ⟨b, 1, none⟩ = some (.slice (some ⟨g, 0, none⟩) 0 0) := c2
  have c0 : w.cell? ⟨b, 1, none⟩ = some (.slice (some ⟨g, 0, none⟩) 0 0) := c1
  have mixed : Tryd.prog.follows .mixedOrders = true := mixed
  go_enter Tryd.func16, Tryd.ntmps16
  go_wp2
  go_region_o
  all_goals (go_wp2; go_ret; exact ⟨rfl, (Below.drew (Below.refl _ w)).alloc (Nat.le_refl _) _⟩)
end
/-- The text that a printer holds. -/
theorem string_does (F : Base) (b : Nat) (l : Str) (bad : Bool) {H0 : Hp} (h : Pst F b l bad H0) :
    Does Tryd.prog F 16 #[.pointer (some ⟨b, 0, none⟩)] H0 (fun r _ => r = .string (bs l)) := by
  obtain ⟨p, v, Ho, hp, ho, hd, hb, rfl⟩ := h
  intro w1 hw1 w hs
  have hbk := hs.own _ List.mem_cons_self
  have hlo := ho.lk [] (fun e he => by cases he)
  rcases ho.out with ⟨h1, h2, rfl, rfl⟩ | ⟨g, cap, sp, rfl, rfl, hFg, hlg, hsg, hcg, hmg⟩
  · obtain rfl : l = [] := List.length_eq_zero_iff.1 h2
    exact (pstring_nil b p bad w hbk w.heap.size).mono fun e w' ⟨he, hbl⟩ => ⟨_, _, he, hs.below hbl, rfl⟩
  · have hgk := hs.own (g, .cells (byteCells l ++ sp).toArray 5 (0, 0)) (List.mem_cons_of_mem _ (List.mem_singleton.2 rfl))
    by_cases h0 : l = []
    · subst h0
      by_cases hc0 : cap = 0
      · subst hc0
        exact (pstring_noroom b g p bad _ w hbk hgk).mono fun e w' ⟨he, hbl⟩ => ⟨_, _, he, hs.below hbl, rfl⟩
      · exact (pstring_room b g cap p bad w hbk hc0 w.heap.size).mono fun e w' ⟨he, hbl⟩ => ⟨_, _, he, hs.below hbl, rfl⟩
    · refine (pstring_some b g cap p bad l sp w hbk hgk h0 hcg hmg).mono ?_
      rintro e w' ⟨rfl, rfl⟩
      have hfz : w.drew.freeze ⟨g, 0, none⟩ l.length = { w.drew with heap := w.drew.heap.modify g fun
          | .cells c elem (lo, hi) => .cells c elem (if lo == hi then (0, 0 + l.length) else (min lo 0, max hi (0 + l.length)))
          | o => o } := by unfold World.freeze; rw [if_neg (by simpa using h0)]; rfl
      have hdh : w.drew.heap = w.heap := rfl
      rw [hfz]
      have := hs.put (b := g) (o := .cells (byteCells l ++ sp).toArray 5 (0, l.length)) (w' := { w.drew with heap := w.drew.heap.modify g fun
          | .cells c elem (lo, hi) => .cells c elem (if lo == hi then (0, 0 + l.length) else (min lo 0, max hi (0 + l.length)))
          | o => o }) ⟨_, List.mem_cons_of_mem _ (List.mem_singleton.2 rfl)⟩ rfl rfl rfl (by simp only [hdh, Array.getElem?_modify, hgk]; simp) (by simp [hdh]) (fun k hk => by simp only [hdh, Array.getElem?_modify]; rw [if_neg (fun e => hk e.symm)])
      exact ⟨_, _, rfl, this, rfl⟩
end Go.Proofs.YtoelfmmfjebabaaDoor
