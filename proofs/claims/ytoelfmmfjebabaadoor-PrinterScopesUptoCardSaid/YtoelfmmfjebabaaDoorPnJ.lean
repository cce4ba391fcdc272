/- Layer 10: every argument of a bulk holds an expression that is no more. -/
import Derived.Test.YtoelfmmfjebabaaDoorPnI
namespace Go.Proofs.YtoelfmmfjebabaaDoor
open Go Go.Eng
open Int renaming reduceEq → Za, reduceToNat → Zm, reduceLE → Zn, reduceLT → Zo, reduceAdd → Zp, reduceSub → Zq, reduceNeg → Zr, reducePow → Zt, reduceNegSucc → Zv
open UInt8 renaming reduceOfNat → Zb
open List renaming mapM_cons → Zc, mapM_nil → Zd
open Nat renaming reduceAdd → Ze, reduceMul → Zf, reduceMod → Zg, reduceDiv → Zh, reduceEqDiff → Zi, reduceBEq → Zj, reduceLeDiff → Zk, reduceSub → Zl, reducePow → Zs, reduceLT → Zu
set_option linter.unusedSimpArgs false
set_option linter.unusedVariables false
set_option maxRecDepth 20000

theorem cX : Tryd.prog.cellsOf 30 = 12 := by kernel_rfl
theorem cV : Tryd.prog.cellsOf 27 = 8 := by kernel_rfl
theorem cU : Tryd.prog.cellsOf 23 = 2 := by kernel_rfl
theorem cS : Tryd.prog.cellsOf 9 = 1 := by kernel_rfl
theorem cI : Tryd.prog.cellsOf 3 = 1 := by kernel_rfl
theorem cN : Tryd.prog.cellsOf 2 = 1 := by kernel_rfl
theorem cB : Tryd.prog.cellsOf 4 = 1 := by kernel_rfl
theorem cVs : Tryd.prog.cellsOf 24 = 1 := by kernel_rfl
theorem cXs : Tryd.prog.cellsOf 28 = 1 := by kernel_rfl
theorem cSs : Tryd.prog.cellsOf 25 = 1 := by kernel_rfl
theorem wt_sum : ∀ l : List Ex', (l.map wt).sum = wtL l
  | [] => rfl
  | x :: l => by rw [List.map_cons, List.sum_cons, wtL, wt_sum l]
theorem maxLen_eq : maxLen = 9223372036854775807 := by decide
theorem len2 {α : Type} {l : List α} (h : l.length = 2) : ∃ a b, l = [a, b] := by
  match l, h with | [a, b], _ => exact ⟨_, _, rfl⟩
theorem len5 {α : Type} {l : List α} (h : l.length = 5) : ∃ a b c d e, l = [a, b, c, d, e] := by
  match l, h with | [a, b, c, d, e], _ => exact ⟨_, _, _, _, _, rfl⟩
theorem len7 {α : Type} {l : List α} (h : l.length = 7) : ∃ a b c d e f g, l = [a, b, c, d, e, f, g] := by
  match l, h with | [a, b, c, d, e, f, g], _ => exact ⟨_, _, _, _, _, _, _, rfl⟩
section
variable {H : Type} {enc : TypeId × Value → H} {w : World} {spare : Nat → Bool} {held : Bool}
theorem open_str {fuel : Nat} {cs : List Value} {x : DataW H × List MemPlace} (h : DataW.trod enc Tryd.prog w 0 spare held fuel 9 cs = some x) : ∃ s : Str, cs = [.string (bs s)] ∧ s.length ≤ 9223372036854775807 ∧ s.length + 1 ≤ Rows.uptoBulk x.1 := by
  obtain ⟨s, e0, e1, hs⟩ := DataW.trod_string Tryd.underlying9 h
  rw [maxLen_eq] at hs
  refine ⟨s.data.toList, e0, hs, ?_⟩
  rw [e1]; simp [Rows.uptoBulk]
theorem open_strs {fuel : Nat} {cs : List Value} {x : DataW H × List MemPlace} (h : DataW.trod enc Tryd.prog w 0 spare held fuel 25 cs = some x) : ∃ v l, cs = [v] ∧ SlS (fun b => w.heap[b]?) v l ∧ (l.map fun x => x.length + 1).sum + 1 ≤ Rows.uptoBulk x.1 := by
  obtain ⟨a, l, c, g, e, hl, hc, _, h1, h2, h3⟩ := open_slice_w (R := fun cs (s : Str) => cs = [.string (bs s)] ∧ s.length ≤ 9223372036854775807) (f := fun s => s.length + 1) Tryd.underlying25 cS (by omega) h (fun m cs' y hm hy => by
    obtain ⟨s, h1, h2, h3⟩ := open_str hy; exact ⟨s, ⟨h1, h2⟩, h3⟩)
  rw [maxLen_eq] at hl
  exact ⟨_, l, e, ⟨a, c, rfl, hc, hl, fun i s hs => by rw [← (h2 i s hs).1]; exact h1 i s hs, fun i s hs => (h2 i s hs).2⟩, h3⟩
theorem open_uid {fuel : Nat} {cs : List Value} {x : DataW H × List MemPlace} (h : DataW.trod enc Tryd.prog w 0 spare held fuel 23 cs = some x) : ∃ ty id : Str, cs = [.string (bs ty), .string (bs id)] ∧ ty.length + id.length + 3 ≤ Rows.uptoBulk x.1 := by
  obtain ⟨xs, n, hf, hxe, hlen, hx, hfs⟩ := DataW.trod_struct Tryd.underlying23 h
  rw [cU] at hlen
  have hxs : xs.length = 2 := hx
  obtain ⟨x0, x1, rfl⟩ := len2 hxs
  obtain ⟨v0, v1, rfl⟩ := len2 hlen
  have f0 : DataW.trod enc Tryd.prog w 0 spare held n 9 (List.take (Tryd.prog.cellsOf 9) (List.drop 0 [v0, v1])) = some x0 := hfs 0 _ rfl
  have f1 : DataW.trod enc Tryd.prog w 0 spare held n 9 (List.take (Tryd.prog.cellsOf 9) (List.drop 1 [v0, v1])) = some x1 := hfs 1 _ rfl
  simp only [cS, List.drop_zero, List.drop_succ_cons, List.take_succ_cons, List.take_zero] at f0 f1
  obtain ⟨ty, e0, _, b0⟩ := open_str f0
  obtain ⟨id, e1, _, b1⟩ := open_str f1
  simp only [List.cons.injEq, and_true] at e0 e1
  refine ⟨ty, id, by rw [e0, e1], ?_⟩
  rw [hxe]
  simp only [Rows.uptoBulk, List.map_cons, List.map_nil, Rows.uptoBulkAll]
  omega
theorem open_val {fuel : Nat} {cs : List Value} {x : DataW H × List MemPlace} (h : DataW.trod enc Tryd.prog w 0 spare held fuel 27 cs = some x) :
    ∃ (v : LV) (u1 u2 : Value), cs = v.cells u1 u2 ∧ ((∃ a n c, u1 = .slice a n c) ∧ ∃ a n c, u2 = .slice a n c) ∧ I64 v.kind ∧ I64 v.n ∧ v.tx.length + v.ty.length + v.id.length + 10 ≤ Rows.uptoBulk x.1 := by
  obtain ⟨xs, n, hf, hxe, hlen, hx, hfs⟩ := DataW.trod_struct Tryd.underlying27 h
  rw [cV] at hlen
  have hxs : xs.length = 7 := hx
  obtain ⟨x0, x1, x2, x3, x4, x5, x6, rfl⟩ := len7 hxs
  match cs, hlen with
  | [v0, v1, v2, v3, v4, v5, v6, v7], _ =>
    have f0 : DataW.trod enc Tryd.prog w 0 spare held n 3 (List.take (Tryd.prog.cellsOf 3) (List.drop 0 [v0, v1, v2, v3, v4, v5, v6, v7])) = some x0 := hfs 0 _ rfl
    have f1 : DataW.trod enc Tryd.prog w 0 spare held n 4 (List.take (Tryd.prog.cellsOf 4) (List.drop 1 [v0, v1, v2, v3, v4, v5, v6, v7])) = some x1 := hfs 1 _ rfl
    have f2 : DataW.trod enc Tryd.prog w 0 spare held n 2 (List.take (Tryd.prog.cellsOf 2) (List.drop 2 [v0, v1, v2, v3, v4, v5, v6, v7])) = some x2 := hfs 2 _ rfl
    have f3 : DataW.trod enc Tryd.prog w 0 spare held n 9 (List.take (Tryd.prog.cellsOf 9) (List.drop 3 [v0, v1, v2, v3, v4, v5, v6, v7])) = some x3 := hfs 3 _ rfl
    have f4 : DataW.trod enc Tryd.prog w 0 spare held n 23 (List.take (Tryd.prog.cellsOf 23) (List.drop 4 [v0, v1, v2, v3, v4, v5, v6, v7])) = some x4 := hfs 4 _ rfl
    have f5 : DataW.trod enc Tryd.prog w 0 spare held n 24 (List.take (Tryd.prog.cellsOf 24) (List.drop 6 [v0, v1, v2, v3, v4, v5, v6, v7])) = some x5 := hfs 5 _ rfl
    have f6 : DataW.trod enc Tryd.prog w 0 spare held n 25 (List.take (Tryd.prog.cellsOf 25) (List.drop 7 [v0, v1, v2, v3, v4, v5, v6, v7])) = some x6 := hfs 6 _ rfl
    simp only [cI, cB, cN, cS, cU, cVs, cSs, List.drop_zero, List.drop_succ_cons, List.take_succ_cons, List.take_zero] at f0 f1 f2 f3 f4 f5 f6
    obtain ⟨k, e0, d0, hk⟩ := DataW.trod_int Tryd.underlying3 f0
    obtain ⟨bo, e1, _⟩ := DataW.trod_bool Tryd.underlying4 f1
    obtain ⟨m, e2, d2, hm⟩ := DataW.trod_int Tryd.underlying2 f2
    obtain ⟨tx, e3, _, b3⟩ := open_str f3
    obtain ⟨ty, id, e4, b4⟩ := open_uid f4
    simp only [List.cons.injEq, and_true] at e0 e1 e2 e3 e4
    have g5 : ∃ a n c, v6 = .slice a n c := by
      rcases DataW.trod_slice Tryd.underlying24 f5 with ⟨hc, _⟩ | ⟨a, len, cap, _, _, _, _, hc, _⟩
      · exact ⟨_, _, _, (List.cons.inj hc).1⟩
      · exact ⟨_, _, _, (List.cons.inj hc).1⟩
    have g6 : ∃ a n c, v7 = .slice a n c := by
      rcases DataW.trod_slice Tryd.underlying25 f6 with ⟨hc, _⟩ | ⟨a, len, cap, _, _, _, _, hc, _⟩
      · exact ⟨_, _, _, (List.cons.inj hc).1⟩
      · exact ⟨_, _, _, (List.cons.inj hc).1⟩
    have p0 := bulk_pos x0.1
    have p1 := bulk_pos x1.1
    have p2 := bulk_pos x2.1
    have p5 := bulk_pos x5.1
    have p6 := bulk_pos x6.1
    refine ⟨⟨k, bo, m, tx, ty, id⟩, v6, v7, by rw [e0, e1, e2, e3, e4.1, e4.2]; rfl, ⟨g5, g6⟩, wf_i64 hk, wf_i64 hm, ?_⟩
    rw [hxe]
    simp only [Rows.uptoBulk, List.map_cons, List.map_nil, Rows.uptoBulkAll]
    omega
theorem open_ex : ∀ (fuel : Nat) (cs : List Value) (x : DataW H × List MemPlace), DataW.trod enc Tryd.prog w 0 spare held fuel 30 cs = some x → ∃ e, RepX (fun b => w.heap[b]?) cs e ∧ wt e ≤ Rows.uptoBulk x.1 := by
  intro fuel
  induction fuel using Nat.strongRecOn with
  | _ fuel ih =>
    intro cs x h
    obtain ⟨xs, n, hf, hxe, hlen, hx, hfs⟩ := DataW.trod_struct Tryd.underlying30 h
    rw [cX] at hlen
    have hxs : xs.length = 5 := hx
    obtain ⟨x0, x1, x2, x3, x4, rfl⟩ := len5 hxs
    match cs, hlen with
    | [v0, v1, v2, v3, v4, v5, v6, v7, v8, v9, v10, v11], _ =>
      have f0 : DataW.trod enc Tryd.prog w 0 spare held n 3 (List.take (Tryd.prog.cellsOf 3) (List.drop 0 [v0, v1, v2, v3, v4, v5, v6, v7, v8, v9, v10, v11])) = some x0 := hfs 0 _ rfl
      have f1 : DataW.trod enc Tryd.prog w 0 spare held n 27 (List.take (Tryd.prog.cellsOf 27) (List.drop 1 [v0, v1, v2, v3, v4, v5, v6, v7, v8, v9, v10, v11])) = some x1 := hfs 1 _ rfl
      have f2 : DataW.trod enc Tryd.prog w 0 spare held n 9 (List.take (Tryd.prog.cellsOf 9) (List.drop 9 [v0, v1, v2, v3, v4, v5, v6, v7, v8, v9, v10, v11])) = some x2 := hfs 2 _ rfl
      have f3 : DataW.trod enc Tryd.prog w 0 spare held n 28 (List.take (Tryd.prog.cellsOf 28) (List.drop 10 [v0, v1, v2, v3, v4, v5, v6, v7, v8, v9, v10, v11])) = some x3 := hfs 3 _ rfl
      have f4 : DataW.trod enc Tryd.prog w 0 spare held n 25 (List.take (Tryd.prog.cellsOf 25) (List.drop 11 [v0, v1, v2, v3, v4, v5, v6, v7, v8, v9, v10, v11])) = some x4 := hfs 4 _ rfl
      simp only [cI, cV, cS, cXs, cSs, List.drop_zero, List.drop_succ_cons, List.take_succ_cons, List.take_zero] at f0 f1 f2 f3 f4
      obtain ⟨op, e0, _, hop⟩ := DataW.trod_int Tryd.underlying3 f0
      obtain ⟨v, u1, u2, e1, hu, hk, hn, b1⟩ := open_val f1
      obtain ⟨nm, e2, _, b2⟩ := open_str f2
      obtain ⟨a1, kids, c1, g1, e3, hl1, hc1, _, he1, he2, b3⟩ := open_slice_w (R := RepX (fun b => w.heap[b]?)) (f := wt) Tryd.underlying28 cX (by omega) f3 (fun m cs' y hm hy => ih m (by omega) cs' y hy)
      obtain ⟨vn, names, e4, hN, b4⟩ := open_strs f4
      rw [maxLen_eq] at hl1
      have p0 := bulk_pos x0.1
      simp only [List.cons.injEq, and_true, LV.cells] at e0 e1 e2 e3 e4
      obtain ⟨q1, q2, q3, q4, q5, q6, q7, q8⟩ := e1
      refine ⟨.mk op v nm kids names, ?_, ?_⟩
      · rw [e0, q1, q2, q3, q4, q5, q6, q7, q8, e2, e3, e4]
        exact .mk op v u1 u2 nm a1 c1 kids g1 vn names hu (wf_i64 hop) hk hn hl1 hc1 he1 he2 hN
      · rw [wt_sum] at b3
        rw [wt, hxe]
        simp only [Rows.uptoBulk, List.map_cons, List.map_nil, Rows.uptoBulkAll]
        omega
end
end Go.Proofs.YtoelfmmfjebabaaDoor
