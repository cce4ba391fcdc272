/- Layer 10: what stands ahead of a row's expressions. -/
import Derived.Test.YtoelfmmfjebabaaDoorPnO
namespace Go.Proofs.YtoelfmmfjebabaaDoor
open Go Go.Eng
open Int renaming reduceEq → Za, reduceToNat → Zm, reduceLE → Zn, reduceLT → Zo, reduceAdd → Zp, reduceSub → Zq, reduceNeg → Zr, reducePow → Zt, reduceNegSucc → Zv
open UInt8 renaming reduceOfNat → Zb
open List renaming mapM_cons → Zc, mapM_nil → Zd
open Nat renaming reduceAdd → Ze, reduceMul → Zf, reduceMod → Zg, reduceDiv → Zh, reduceEqDiff → Zi, reduceBEq → Zj, reduceLeDiff → Zk, reduceSub → Zl, reducePow → Zs, reduceLT → Zu
set_option linter.unusedSimpArgs false
set_option linter.unusedVariables false
set_option maxRecDepth 20000

/-! ### Calls that write, and new blocks, beside so many others -/
theorem wr_1 {X : List Nat} {F : Base} {w0 : World} {f : Nat} {args : List Value} {K : Value → Hp → Prop} {b : Nat} {s0 s1 : Str} {bad0 bad1 : Bool} {R : Value} {H0 : Hp} {b0 : Nat} {o0 : Obj} (h : Wr (rdObj F [(b0, o0)]) f args b s0 bad0 s1 bad1 R) (hp : Pst F b s0 bad0 H0) (d0 : ∀ e ∈ H0, e.1 ≠ b0)
    (hk : ∀ H', Pst F b s1 bad1 H' → (∀ e ∈ H', e.1 ≠ b0) → K R ((b0, o0) :: H')) : @CallE Tryd.prog X F w0 f args.toArray ((b0, o0) :: H0) ⟨K⟩ :=
  CallE.wr [(b0, o0)] H0 h hp (fun e he => by simp [he]) (fun e he => by simp at he; rcases he with rfl <;> simp) (fun e' he' e he => by simp at he'; rcases he' with rfl <;> simp only <;> (first | exact d0 e he)) fun H' hp' hd => hk H' hp' (fun e he => hd (b0, o0) (by simp) e he)
theorem wr_11 {X : List Nat} {F : Base} {w0 : World} {f : Nat} {args : List Value} {K : Value → Hp → Prop} {b : Nat} {s0 s1 : Str} {bad0 bad1 : Bool} {R : Value} {H0 : Hp} {b0 b1 : Nat} {o0 o1 : Obj} (h : Wr (rdObj F [(b0, o0), (b1, o1)]) f args b s0 bad0 s1 bad1 R) (hp : Pst F b s0 bad0 H0) (d0 : ∀ e ∈ H0, e.1 ≠ b0) (d1 : ∀ e ∈ H0, e.1 ≠ b1)
    (hk : ∀ H', Pst F b s1 bad1 H' → (∀ e ∈ H', e.1 ≠ b0) → (∀ e ∈ H', e.1 ≠ b1) → K R ((b0, o0) :: (b1, o1) :: H')) : @CallE Tryd.prog X F w0 f args.toArray ((b0, o0) :: (b1, o1) :: H0) ⟨K⟩ :=
  CallE.wr [(b0, o0), (b1, o1)] H0 h hp (fun e he => by simp [he]) (fun e he => by simp at he; rcases he with rfl | rfl <;> simp) (fun e' he' e he => by simp at he'; rcases he' with rfl | rfl <;> simp only <;> (first | exact d0 e he | exact d1 e he)) fun H' hp' hd => hk H' hp' (fun e he => hd (b0, o0) (by simp) e he) (fun e he => hd (b1, o1) (by simp) e he)
theorem wr_111 {X : List Nat} {F : Base} {w0 : World} {f : Nat} {args : List Value} {K : Value → Hp → Prop} {b : Nat} {s0 s1 : Str} {bad0 bad1 : Bool} {R : Value} {H0 : Hp} {b0 b1 b2 : Nat} {o0 o1 o2 : Obj} (h : Wr (rdObj F [(b0, o0), (b1, o1), (b2, o2)]) f args b s0 bad0 s1 bad1 R) (hp : Pst F b s0 bad0 H0) (d0 : ∀ e ∈ H0, e.1 ≠ b0) (d1 : ∀ e ∈ H0, e.1 ≠ b1) (d2 : ∀ e ∈ H0, e.1 ≠ b2)
    (hk : ∀ H', Pst F b s1 bad1 H' → (∀ e ∈ H', e.1 ≠ b0) → (∀ e ∈ H', e.1 ≠ b1) → (∀ e ∈ H', e.1 ≠ b2) → K R ((b0, o0) :: (b1, o1) :: (b2, o2) :: H')) : @CallE Tryd.prog X F w0 f args.toArray ((b0, o0) :: (b1, o1) :: (b2, o2) :: H0) ⟨K⟩ :=
  CallE.wr [(b0, o0), (b1, o1), (b2, o2)] H0 h hp (fun e he => by simp [he]) (fun e he => by simp at he; rcases he with rfl | rfl | rfl <;> simp) (fun e' he' e he => by simp at he'; rcases he' with rfl | rfl | rfl <;> simp only <;> (first | exact d0 e he | exact d1 e he | exact d2 e he)) fun H' hp' hd => hk H' hp' (fun e he => hd (b0, o0) (by simp) e he) (fun e he => hd (b1, o1) (by simp) e he) (fun e he => hd (b2, o2) (by simp) e he)
theorem wr_01 {X : List Nat} {F : Base} {w0 : World} {f : Nat} {args : List Value} {K : Value → Hp → Prop} {b : Nat} {s0 s1 : Str} {bad0 bad1 : Bool} {R : Value} {H0 : Hp} {b0 b1 : Nat} {o0 o1 : Obj} (h : Wr (rdObj F [(b1, o1)]) f args b s0 bad0 s1 bad1 R) (hp : Pst F b s0 bad0 H0) (d1 : ∀ e ∈ H0, e.1 ≠ b1)
    (hk : ∀ H', Pst F b s1 bad1 H' → (∀ e ∈ H', e.1 ≠ b1) → K R ((b1, o1) :: H')) : @CallE Tryd.prog X F w0 f args.toArray ((b0, o0) :: (b1, o1) :: H0) ⟨K⟩ :=
  CallE.wr [(b1, o1)] H0 h hp (fun e he => by simp [he]) (fun e he => by simp at he; rcases he with rfl <;> simp) (fun e' he' e he => by simp at he'; rcases he' with rfl <;> simp only <;> (first | exact d1 e he)) fun H' hp' hd => hk H' hp' (fun e he => hd (b1, o1) (by simp) e he)
theorem wr_011 {X : List Nat} {F : Base} {w0 : World} {f : Nat} {args : List Value} {K : Value → Hp → Prop} {b : Nat} {s0 s1 : Str} {bad0 bad1 : Bool} {R : Value} {H0 : Hp} {b0 b1 b2 : Nat} {o0 o1 o2 : Obj} (h : Wr (rdObj F [(b1, o1), (b2, o2)]) f args b s0 bad0 s1 bad1 R) (hp : Pst F b s0 bad0 H0) (d1 : ∀ e ∈ H0, e.1 ≠ b1) (d2 : ∀ e ∈ H0, e.1 ≠ b2)
    (hk : ∀ H', Pst F b s1 bad1 H' → (∀ e ∈ H', e.1 ≠ b1) → (∀ e ∈ H', e.1 ≠ b2) → K R ((b1, o1) :: (b2, o2) :: H')) : @CallE Tryd.prog X F w0 f args.toArray ((b0, o0) :: (b1, o1) :: (b2, o2) :: H0) ⟨K⟩ :=
  CallE.wr [(b1, o1), (b2, o2)] H0 h hp (fun e he => by simp [he]) (fun e he => by simp at he; rcases he with rfl | rfl <;> simp) (fun e' he' e he => by simp at he'; rcases he' with rfl | rfl <;> simp only <;> (first | exact d1 e he | exact d2 e he)) fun H' hp' hd => hk H' hp' (fun e he => hd (b1, o1) (by simp) e he) (fun e he => hd (b2, o2) (by simp) e he)
theorem wr_101 {X : List Nat} {F : Base} {w0 : World} {f : Nat} {args : List Value} {K : Value → Hp → Prop} {b : Nat} {s0 s1 : Str} {bad0 bad1 : Bool} {R : Value} {H0 : Hp} {b0 b1 b2 : Nat} {o0 o1 o2 : Obj} (h : Wr (rdObj F [(b0, o0), (b2, o2)]) f args b s0 bad0 s1 bad1 R) (hp : Pst F b s0 bad0 H0) (d0 : ∀ e ∈ H0, e.1 ≠ b0) (d2 : ∀ e ∈ H0, e.1 ≠ b2)
    (hk : ∀ H', Pst F b s1 bad1 H' → (∀ e ∈ H', e.1 ≠ b0) → (∀ e ∈ H', e.1 ≠ b2) → K R ((b0, o0) :: (b2, o2) :: H')) : @CallE Tryd.prog X F w0 f args.toArray ((b0, o0) :: (b1, o1) :: (b2, o2) :: H0) ⟨K⟩ :=
  CallE.wr [(b0, o0), (b2, o2)] H0 h hp (fun e he => by simp [he]) (fun e he => by simp at he; rcases he with rfl | rfl <;> simp) (fun e' he' e he => by simp at he'; rcases he' with rfl | rfl <;> simp only <;> (first | exact d0 e he | exact d2 e he)) fun H' hp' hd => hk H' hp' (fun e he => hd (b0, o0) (by simp) e he) (fun e he => hd (b2, o2) (by simp) e he)
theorem wr_0111 {X : List Nat} {F : Base} {w0 : World} {f : Nat} {args : List Value} {K : Value → Hp → Prop} {b : Nat} {s0 s1 : Str} {bad0 bad1 : Bool} {R : Value} {H0 : Hp} {b0 b1 b2 b3 : Nat} {o0 o1 o2 o3 : Obj} (h : Wr (rdObj F [(b1, o1), (b2, o2), (b3, o3)]) f args b s0 bad0 s1 bad1 R) (hp : Pst F b s0 bad0 H0) (d1 : ∀ e ∈ H0, e.1 ≠ b1) (d2 : ∀ e ∈ H0, e.1 ≠ b2) (d3 : ∀ e ∈ H0, e.1 ≠ b3)
    (hk : ∀ H', Pst F b s1 bad1 H' → (∀ e ∈ H', e.1 ≠ b1) → (∀ e ∈ H', e.1 ≠ b2) → (∀ e ∈ H', e.1 ≠ b3) → K R ((b1, o1) :: (b2, o2) :: (b3, o3) :: H')) : @CallE Tryd.prog X F w0 f args.toArray ((b0, o0) :: (b1, o1) :: (b2, o2) :: (b3, o3) :: H0) ⟨K⟩ :=
  CallE.wr [(b1, o1), (b2, o2), (b3, o3)] H0 h hp (fun e he => by simp [he]) (fun e he => by simp at he; rcases he with rfl | rfl | rfl <;> simp) (fun e' he' e he => by simp at he'; rcases he' with rfl | rfl | rfl <;> simp only <;> (first | exact d1 e he | exact d2 e he | exact d3 e he)) fun H' hp' hd => hk H' hp' (fun e he => hd (b1, o1) (by simp) e he) (fun e he => hd (b2, o2) (by simp) e he) (fun e he => hd (b3, o3) (by simp) e he)
theorem wr_1011 {X : List Nat} {F : Base} {w0 : World} {f : Nat} {args : List Value} {K : Value → Hp → Prop} {b : Nat} {s0 s1 : Str} {bad0 bad1 : Bool} {R : Value} {H0 : Hp} {b0 b1 b2 b3 : Nat} {o0 o1 o2 o3 : Obj} (h : Wr (rdObj F [(b0, o0), (b2, o2), (b3, o3)]) f args b s0 bad0 s1 bad1 R) (hp : Pst F b s0 bad0 H0) (d0 : ∀ e ∈ H0, e.1 ≠ b0) (d2 : ∀ e ∈ H0, e.1 ≠ b2) (d3 : ∀ e ∈ H0, e.1 ≠ b3)
    (hk : ∀ H', Pst F b s1 bad1 H' → (∀ e ∈ H', e.1 ≠ b0) → (∀ e ∈ H', e.1 ≠ b2) → (∀ e ∈ H', e.1 ≠ b3) → K R ((b0, o0) :: (b2, o2) :: (b3, o3) :: H')) : @CallE Tryd.prog X F w0 f args.toArray ((b0, o0) :: (b1, o1) :: (b2, o2) :: (b3, o3) :: H0) ⟨K⟩ :=
  CallE.wr [(b0, o0), (b2, o2), (b3, o3)] H0 h hp (fun e he => by simp [he]) (fun e he => by simp at he; rcases he with rfl | rfl | rfl <;> simp) (fun e' he' e he => by simp at he'; rcases he' with rfl | rfl | rfl <;> simp only <;> (first | exact d0 e he | exact d2 e he | exact d3 e he)) fun H' hp' hd => hk H' hp' (fun e he => hd (b0, o0) (by simp) e he) (fun e he => hd (b2, o2) (by simp) e he) (fun e he => hd (b3, o3) (by simp) e he)
theorem wr_1111 {X : List Nat} {F : Base} {w0 : World} {f : Nat} {args : List Value} {K : Value → Hp → Prop} {b : Nat} {s0 s1 : Str} {bad0 bad1 : Bool} {R : Value} {H0 : Hp} {b0 b1 b2 b3 : Nat} {o0 o1 o2 o3 : Obj} (h : Wr (rdObj F [(b0, o0), (b1, o1), (b2, o2), (b3, o3)]) f args b s0 bad0 s1 bad1 R) (hp : Pst F b s0 bad0 H0) (d0 : ∀ e ∈ H0, e.1 ≠ b0) (d1 : ∀ e ∈ H0, e.1 ≠ b1) (d2 : ∀ e ∈ H0, e.1 ≠ b2) (d3 : ∀ e ∈ H0, e.1 ≠ b3)
    (hk : ∀ H', Pst F b s1 bad1 H' → (∀ e ∈ H', e.1 ≠ b0) → (∀ e ∈ H', e.1 ≠ b1) → (∀ e ∈ H', e.1 ≠ b2) → (∀ e ∈ H', e.1 ≠ b3) → K R ((b0, o0) :: (b1, o1) :: (b2, o2) :: (b3, o3) :: H')) : @CallE Tryd.prog X F w0 f args.toArray ((b0, o0) :: (b1, o1) :: (b2, o2) :: (b3, o3) :: H0) ⟨K⟩ :=
  CallE.wr [(b0, o0), (b1, o1), (b2, o2), (b3, o3)] H0 h hp (fun e he => by simp [he]) (fun e he => by simp at he; rcases he with rfl | rfl | rfl | rfl <;> simp) (fun e' he' e he => by simp at he'; rcases he' with rfl | rfl | rfl | rfl <;> simp only <;> (first | exact d0 e he | exact d1 e he | exact d2 e he | exact d3 e he)) fun H' hp' hd => hk H' hp' (fun e he => hd (b0, o0) (by simp) e he) (fun e he => hd (b1, o1) (by simp) e he) (fun e he => hd (b2, o2) (by simp) e he) (fun e he => hd (b3, o3) (by simp) e he)
theorem new_1 {F : Base} {H0 : Hp} {o : Obj} {k : Nat → Hp → Prop} {b0 : Nat} {o0 : Obj} (h : ∀ b, b0 ≠ b → (∀ e ∈ H0, e.1 ≠ b) → F b = none → k b ((b, o) :: (b0, o0) :: H0)) : @NewB F ((b0, o0) :: H0) o ⟨k⟩ :=
  NewB.of fun b hb hF => h b (hb (b0, o0) (by simp)) (fun e he => hb e (by simp [he])) hF
theorem new_2 {F : Base} {H0 : Hp} {o : Obj} {k : Nat → Hp → Prop} {b0 b1 : Nat} {o0 o1 : Obj} (h : ∀ b, b0 ≠ b → b1 ≠ b → (∀ e ∈ H0, e.1 ≠ b) → F b = none → k b ((b, o) :: (b0, o0) :: (b1, o1) :: H0)) : @NewB F ((b0, o0) :: (b1, o1) :: H0) o ⟨k⟩ :=
  NewB.of fun b hb hF => h b (hb (b0, o0) (by simp)) (hb (b1, o1) (by simp)) (fun e he => hb e (by simp [he])) hF
theorem new_3 {F : Base} {H0 : Hp} {o : Obj} {k : Nat → Hp → Prop} {b0 b1 b2 : Nat} {o0 o1 o2 : Obj} (h : ∀ b, b0 ≠ b → b1 ≠ b → b2 ≠ b → (∀ e ∈ H0, e.1 ≠ b) → F b = none → k b ((b, o) :: (b0, o0) :: (b1, o1) :: (b2, o2) :: H0)) : @NewB F ((b0, o0) :: (b1, o1) :: (b2, o2) :: H0) o ⟨k⟩ :=
  NewB.of fun b hb hF => h b (hb (b0, o0) (by simp)) (hb (b1, o1) (by simp)) (hb (b2, o2) (by simp)) (fun e he => hb e (by simp [he])) hF
theorem new_4 {F : Base} {H0 : Hp} {o : Obj} {k : Nat → Hp → Prop} {b0 b1 b2 b3 : Nat} {o0 o1 o2 o3 : Obj} (h : ∀ b, b0 ≠ b → b1 ≠ b → b2 ≠ b → b3 ≠ b → (∀ e ∈ H0, e.1 ≠ b) → F b = none → k b ((b, o) :: (b0, o0) :: (b1, o1) :: (b2, o2) :: (b3, o3) :: H0)) : @NewB F ((b0, o0) :: (b1, o1) :: (b2, o2) :: (b3, o3) :: H0) o ⟨k⟩ :=
  NewB.of fun b hb hF => h b (hb (b0, o0) (by simp)) (hb (b1, o1) (by simp)) (hb (b2, o2) (by simp)) (hb (b3, o3) (by simp)) (fun e he => hb e (by simp [he])) hF
theorem ahQ_call : callable Tryd.prog 32 = true := by kernel_rfl
theorem ahN_call : callable Tryd.prog 33 = true := by kernel_rfl
theorem ahQ_aw (F : Base) (b n : Nat) : AW F (.func (.func 32) #[] #[]) b ahQ n := by
  refine ⟨_, _, _, rfl, ahQ_call, fun F' hF i hi s bad hl H0 hp => ?_⟩
  refine does_of_svc (args := [Value.int .i64 i]) mixed Tryd.func32 low32 (Nat.le_of_ble_eq_true rfl) (fun w0 hw0 => ?_)
  simp (disch := first | assumption | exact Ne.symm (by assumption) | omega) only [fu32, ↓ZD, ZU, ZR, Za, Zb, Zc, Zd, Ze, Zf, Zg, Zh, Zi, Zj, Zk, Zl, Zm, Zn, Zo, Zp, Zq, Zr, reduceIte, reduceCtorEq, Zs, Zt, Zu, Zv]
  simpa [ahQ] using hp
theorem ahN_aw (F : Base) (b b2 b3 T2 : Nat) {op : Int} {v : LV} {u1 u2 vk vn : Value} {nm : Str} {names : List Str} (hN : SlS F vn names) (hs : ∀ x ∈ names, Sm x)
    (h2 : F b2 = some (.cells #[.pointer (some ⟨b, 0, none⟩)] T2 (0, 0))) (h3 : F b3 = some (.cells (xcells op v u1 u2 nm vk vn).toArray 30 (0, 0))) :
    AW F (.func (.func 33) #[] #[.pointer (some ⟨b2, 0, none⟩), .pointer (some ⟨b3, 0, none⟩)]) b (ahN names) names.length := by
  refine ⟨_, _, _, rfl, ahN_call, fun F' hF i hi s bad hl H0 hp => ?_⟩
  obtain ⟨an, cn, rfl, hcn, hln, hh⟩ := hN
  have h2 := hF _ _ h2
  have h3 := hF _ _ h3
  have gx := getS hi
  obtain ⟨ba, oa, rfl, hla⟩ := ((hh.1 i _ gx).mono hF).ld1
  simp only [Nat.mul_one] at hla
  have hsm := hs _ (List.mem_of_getElem? gx)
  unfold Sm at hsm
  refine Does.shr (K := fun r H' => r = .tuple #[] ∧ ∃ Hc, (∀ e ∈ Hc, e ∈ H') ∧ Pst F' b (s ++ ahN names i) bad Hc) ?_ fun _ _ ⟨h1, Hc, h2, h3⟩ => ⟨Hc, h2, h1, h3⟩
  refine does_of_svc (args := [Value.int .i64 i, .pointer (some ⟨b2, 0, none⟩), .pointer (some ⟨b3, 0, none⟩)]) mixed Tryd.func33 low33 (Nat.le_of_ble_eq_true rfl) (fun w0 hw0 => ?_)
  unfold xcells at h3
  simp (disch := first | assumption | exact Ne.symm (by assumption) | omega) only [fu33, h2, h3, ↓ZD, ZU, ZR, Za, Zb, Zc, Zd, Ze, Zf, Zg, Zh, Zi, Zj, Zk, Zl, Zm, Zn, Zo, Zp, Zq, Zr, reduceIte, reduceCtorEq, Zs, Zt, Zu, Zv]
  refine conj.of (by omega) ?_
  simp (disch := first | assumption | exact Ne.symm (by assumption) | omega) only [h2, h3, Int.toNat_natCast, Nat.mul_one, ↓hla, ↓ZD, ZU, ZR, Za, Zb, Zc, Zd, Ze, Zf, Zg, Zh, Zi, Zj, Zk, Zl, Zm, Zn, Zo, Zp, Zq, Zr, reduceIte, reduceCtorEq, Zs, Zt, Zu, Zv]
  refine CallQ.of _ (quote_pure _ (names.getD i []) (by omega)) ?_
  simp (disch := first | assumption | exact Ne.symm (by assumption) | omega) only [h2, h3, ↓ZD, ZU, ZR, Za, Zb, Zc, Zd, Ze, Zf, Zg, Zh, Zi, Zj, Zk, Zl, Zm, Zn, Zo, Zp, Zq, Zr, reduceIte, reduceCtorEq, Zs, Zt, Zu, Zv]
  refine NewB.of fun b1 hb1 hF1 => ?_
  simp (disch := first | assumption | exact Ne.symm (by assumption) | omega) only [hF1, ↓ZD, ZU, ZR, Za, Zb, Zc, Zd, Ze, Zf, Zg, Zh, Zi, Zj, Zk, Zl, Zm, Zn, Zo, Zp, Zq, Zr, reduceIte, reduceCtorEq, Zs, Zt, Zu, Zv]
  refine CallE.wr [(b1, .cells #[.string (bs (quote (names.getD i []))), .string (bs [58, 32])] 9 (0, 0))] H0 (put2 _ b b1 9 s (quote (names.getD i [])) [58, 32] _ (by simp [rdObj, hF1, lk]) (by simpa [ahN] using hl)) hp (by simp +contextual) (by simp) (by simpa using hb1) ?_
  intro H2 hp2 hd2
  simp (disch := first | assumption | exact Ne.symm (by assumption) | omega) only [↓ZD, ZU, ZR, Za, Zb, Zc, Zd, Ze, Zf, Zg, Zh, Zi, Zj, Zk, Zl, Zm, Zn, Zo, Zp, Zq, Zr, reduceIte, reduceCtorEq, Zs, Zt, Zu, Zv]
  exact ⟨H2, by simp +contextual, hp2⟩
end Go.Proofs.YtoelfmmfjebabaaDoor
