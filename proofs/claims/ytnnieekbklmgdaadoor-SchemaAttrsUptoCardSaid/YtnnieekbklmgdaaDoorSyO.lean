/- Layer 12: the document's example. -/
import Derived.Test.YtnnieekbklmgdaaDoorSyN
namespace Go.Proofs.YtnnieekbklmgdaaDoor
open Go Go.Eng
open Int renaming reduceEq → Zaa, reduceToNat → Zaw, reduceLE → Zax, reduceLT → Zay, reduceAdd → Zaz, reduceSub → Za0, reduceNeg → Za1, reducePow → Za3, reduceNegSucc → Za5
open UInt8 renaming reduceOfNat → Zab
open Go.Eng renaming subG → Zac, lit → Zad, isPar → Zae, numb → Zaf, Wf → Zag, resV → Zah, oneCell → Zai, isB → Zaj, asB → Zak
open List renaming mapM_cons → Zal, mapM_nil → Zam
open Go.Value renaming cells → Zan
open Nat renaming reduceAdd → Zao, reduceMul → Zap, reduceMod → Zaq, reduceDiv → Zar, reduceEqDiff → Zas, reduceBEq → Zat, reduceLeDiff → Zau, reduceSub → Zav, reducePow → Za2, reduceLT → Za4
set_option linter.unusedSimpArgs false
set_option linter.unusedVariables false
set_option maxRecDepth 100000

def fu8x : Fun := Fun.mk 84 (SC.seq (SC.reg [SO.mk (some 0) (S.mv (X.c (Value.bool false))) none Kind.q]) (SC.seq (SC.reg [SO.mk (some 6) (S.bslice 9 1 [Value.string (bs [])] [(0, 1, X.c (Value.string (bs [71, 114, 111, 117, 112])))]) none Kind.e, SO.mk (some 7) (S.build [Value.string (bs []), Value.slice none 0 0, Value.slice none 0 0] [(0, 1, X.c (Value.string (bs [85, 115, 101, 114]))), (1, 1, X.t 6)]) none Kind.q, SO.mk (some 8) (S.bslice 9 1 [Value.string (bs [])] [(0, 1, X.c (Value.string (bs [71, 114, 111, 117, 112])))]) none Kind.e, SO.mk (some 9) (S.build [Value.string (bs []), Value.slice none 0 0, Value.slice none 0 0] [(0, 1, X.c (Value.string (bs [71, 114, 111, 117, 112]))), (1, 1, X.t 8)]) none Kind.q, SO.mk (some 10) (S.bslice 33 2 [Value.string (bs []), Value.slice none 0 0, Value.slice none 0 0, Value.string (bs []), Value.slice none 0 0, Value.slice none 0 0] [(0, 3, X.t 7), (3, 3, X.t 9)]) none Kind.e, SO.mk (some 11) (S.bslice 9 1 [Value.string (bs [])] [(0, 1, X.c (Value.string (bs [97, 108, 108])))]) none Kind.e, SO.mk (some 12) (S.bslice 9 1 [Value.string (bs [])] [(0, 1, X.c (Value.string (bs [85, 115, 101, 114])))]) none Kind.e, SO.mk (some 13) (S.bslice 9 2 [Value.string (bs []), Value.string (bs [])] [(0, 1, X.c (Value.string (bs [71, 114, 111, 117, 112]))), (1, 1, X.c (Value.string (bs [85, 115, 101, 114])))]) none Kind.e, SO.mk (some 14) (S.build [Value.string (bs []), Value.slice none 0 0, Value.slice none 0 0, Value.slice none 0 0, Value.slice none 0 0] [(0, 1, X.c (Value.string (bs [118]))), (1, 1, X.t 11), (2, 1, X.t 12), (3, 1, X.t 13)]) none Kind.q, SO.mk (some 15) (S.build [Value.string (bs []), Value.slice none 0 0, Value.slice none 0 0, Value.slice none 0 0, Value.slice none 0 0] [(0, 1, X.c (Value.string (bs [97, 108, 108])))]) none Kind.q, SO.mk (some 16) (S.bslice 37 2 [Value.string (bs []), Value.slice none 0 0, Value.slice none 0 0, Value.slice none 0 0, Value.slice none 0 0, Value.string (bs []), Value.slice none 0 0, Value.slice none 0 0, Value.slice none 0 0, Value.slice none 0 0] [(0, 5, X.t 14), (5, 5, X.t 15)]) none Kind.e, SO.mk (some 17) (S.build [Value.slice none 0 0, Value.slice none 0 0] [(0, 1, X.t 10), (1, 1, X.t 16)]) none Kind.q, SO.mk (some 1) (S.alloc 25 [Value.slice none 0 0, Value.slice none 0 0]) none Kind.e, SO.mk none (S.store 2 (X.t 1) (X.t 17)) none Kind.e]) (SC.seq (SC.reg [SO.mk (some 19) (S.ld 2 true (X.t 1)) none Kind.q, SO.mk (some 20) (S.call 12 [X.t 19, X.c (Value.string (bs [71, 114, 111, 117, 112]))]) none Kind.e, SO.mk (some 18) (S.mv (X.t 20)) none Kind.q, SO.mk (some 21) (S.ext (X.t 18) 0) none Kind.q, SO.mk (some 22) (S.ext (X.t 18) 1) none Kind.q, SO.mk (some 2) (S.alloc 33 [Value.string (bs []), Value.slice none 0 0, Value.slice none 0 0]) none Kind.e, SO.mk none (S.store 3 (X.t 2) (X.t 21)) none Kind.e, SO.mk (some 3) (S.mv (X.t 22)) none Kind.q]) (SC.seq (SC.reg [SO.mk (some 24) (S.ld 2 true (X.t 1)) none Kind.q, SO.mk (some 25) (S.call 13 [X.t 24, X.c (Value.string (bs [118]))]) none Kind.e, SO.mk (some 23) (S.mv (X.t 25)) none Kind.q, SO.mk (some 26) (S.ext (X.t 23) 0) none Kind.q, SO.mk (some 27) (S.ext (X.t 23) 1) none Kind.q, SO.mk (some 4) (S.alloc 37 [Value.string (bs []), Value.slice none 0 0, Value.slice none 0 0, Value.slice none 0 0, Value.slice none 0 0]) none Kind.e, SO.mk none (S.store 5 (X.t 4) (X.t 26)) none Kind.e, SO.mk (some 5) (S.mv (X.t 27)) none Kind.q]) (SC.seq (SC.reg [SO.mk (some 28) (S.ld 2 true (X.t 1)) none Kind.q, SO.mk (some 29) (S.call 10 [X.t 28]) none Kind.e, SO.mk (some 30) (S.bin BinOp.eql (X.t 29) (X.c (Value.int IntKind.i64 0))) none Kind.q, SO.mk (some 31) (S.mv (X.t 30)) none Kind.q, SO.mk (some 32) (S.ld 2 true (X.t 1)) (some 63) Kind.q, SO.mk (some 33) (S.call 17 [X.t 32, X.c (Value.string (bs [85, 115, 101, 114])), X.c (Value.string (bs [71, 114, 111, 117, 112]))]) (some 63) Kind.q, SO.mk (some 34) (S.pick (X.t 31) (X.t 33) (X.c (Value.bool false))) none Kind.q, SO.mk (some 35) (S.mv (X.t 34)) none Kind.q, SO.mk (some 36) (S.ld 2 true (X.t 1)) (some 71) Kind.q, SO.mk (some 37) (S.call 17 [X.t 36, X.c (Value.string (bs [71, 114, 111, 117, 112])), X.c (Value.string (bs [71, 114, 111, 117, 112]))]) (some 71) Kind.q, SO.mk (some 38) (S.pick (X.t 35) (X.t 37) (X.c (Value.bool false))) none Kind.q, SO.mk (some 39) (S.mv (X.t 38)) none Kind.q, SO.mk (some 40) (S.ld 2 true (X.t 1)) (some 79) Kind.q, SO.mk (some 41) (S.call 17 [X.t 40, X.c (Value.string (bs [71, 114, 111, 117, 112])), X.c (Value.string (bs [85, 115, 101, 114]))]) (some 79) Kind.q, SO.mk (some 42) (S.un UnOp.not (X.t 41)) (some 79) Kind.q, SO.mk (some 43) (S.pick (X.t 39) (X.t 42) (X.c (Value.bool false))) none Kind.q, SO.mk (some 44) (S.mv (X.t 43)) none Kind.q, SO.mk (some 45) (S.mv (X.t 3)) (some 89) Kind.q, SO.mk (some 46) (S.pick (X.t 44) (X.t 45) (X.c (Value.bool false))) none Kind.q, SO.mk (some 47) (S.mv (X.t 46)) none Kind.q, SO.mk (some 48) (S.add 1 (X.t 2)) (some 95) Kind.q, SO.mk (some 49) (S.ld 1 false (X.t 48)) (some 95) Kind.q, SO.mk (some 50) (S.lenSl (X.t 49)) (some 95) Kind.q, SO.mk (some 51) (S.bin BinOp.eql (X.t 50) (X.c (Value.int IntKind.i64 1))) (some 95) Kind.q, SO.mk (some 52) (S.pick (X.t 47) (X.t 51) (X.c (Value.bool false))) none Kind.q, SO.mk (some 53) (S.mv (X.t 52)) none Kind.q, SO.mk (some 54) (S.mv (X.t 5)) (some 107) Kind.q, SO.mk (some 55) (S.pick (X.t 53) (X.t 54) (X.c (Value.bool false))) none Kind.q, SO.mk (some 56) (S.mv (X.t 55)) none Kind.q, SO.mk (some 57) (S.add 1 (X.t 4)) (some 113) Kind.q, SO.mk (some 58) (S.ld 1 false (X.t 57)) (some 113) Kind.q, SO.mk (some 59) (S.lenSl (X.t 58)) (some 113) Kind.q, SO.mk (some 60) (S.bin BinOp.eql (X.t 59) (X.c (Value.int IntKind.i64 1))) (some 113) Kind.q, SO.mk (some 61) (S.pick (X.t 56) (X.t 60) (X.c (Value.bool false))) none Kind.q, SO.mk (some 62) (S.mv (X.t 61)) none Kind.q, SO.mk (some 63) (S.ld 2 true (X.t 1)) (some 125) Kind.q, SO.mk (some 64) (S.call 16 [X.t 63]) (some 125) Kind.e, SO.mk (some 65) (S.lenSl (X.t 64)) (some 125) Kind.q, SO.mk (some 66) (S.bin BinOp.eql (X.t 65) (X.c (Value.int IntKind.i64 2))) (some 125) Kind.q, SO.mk (some 67) (S.pick (X.t 62) (X.t 66) (X.c (Value.bool false))) none Kind.q, SO.mk (some 68) (S.mv (X.t 67)) none Kind.q, SO.mk (some 69) (S.ld 2 true (X.t 1)) (some 137) Kind.q, SO.mk (some 70) (S.call 19 [X.t 69, X.c (Value.string (bs [118])), X.c (Value.string (bs [97, 108, 108]))]) (some 137) Kind.q, SO.mk (some 71) (S.pick (X.t 68) (X.t 70) (X.c (Value.bool false))) none Kind.q, SO.mk (some 72) (S.mv (X.t 71)) none Kind.q, SO.mk (some 73) (S.ld 2 true (X.t 1)) (some 145) Kind.q, SO.mk (some 74) (S.call 19 [X.t 73, X.c (Value.string (bs [97, 108, 108])), X.c (Value.string (bs [118]))]) (some 145) Kind.q, SO.mk (some 75) (S.un UnOp.not (X.t 74)) (some 145) Kind.q, SO.mk (some 76) (S.pick (X.t 72) (X.t 75) (X.c (Value.bool false))) none Kind.q, SO.mk (some 77) (S.mv (X.t 76)) none Kind.q, SO.mk (some 78) (S.build [Value.string (bs []), Value.slice none 0 0, Value.slice none 0 0] [(0, 1, X.c (Value.string (bs [65, 99, 116, 105, 111, 110])))]) (some 155) Kind.q, SO.mk (some 79) (S.bslice 33 1 [Value.string (bs []), Value.slice none 0 0, Value.slice none 0 0] [(0, 3, X.t 78)]) (some 155) Kind.e, SO.mk (some 80) (S.build [Value.slice none 0 0, Value.slice none 0 0] [(0, 1, X.t 79)]) (some 155) Kind.q, SO.mk (some 81) (S.call 10 [X.t 80]) (some 155) Kind.q, SO.mk (some 82) (S.bin BinOp.eql (X.t 81) (X.c (Value.int IntKind.i64 40))) (some 155) Kind.q, SO.mk (some 83) (S.pick (X.t 77) (X.t 82) (X.c (Value.bool false))) none Kind.q, SO.mk (some 0) (S.mv (X.t 83)) none Kind.q]) SC.ret))))) [RV.t 0]
theorem low8x : lowF Tryd.prog [40361] Tryd.f8 = some fu8x := by kernel_rfl
abbrev nU : Str := [85, 115, 101, 114]
abbrev nG : Str := [71, 114, 111, 117, 112]
abbrev nV : Str := [118]
abbrev nA' : Str := [97, 108, 108]
def sA : Sch := ⟨[⟨nU, [nG], []⟩, ⟨nG, [nG], []⟩], [⟨nV, [nA'], [nU], [nG, nU], []⟩, ⟨nA', [], [], [], []⟩]⟩
def sB : Sch := ⟨[⟨actS, [], []⟩], []⟩
theorem Reach.inv {n : Str → List Str} {a y : Str} {S : Str → Prop} (h1 : ∀ y, y ∈ n a → S y) (h2 : ∀ x, S x → ∀ y, y ∈ n x → S y) (h : Reach n a y) : S y := by
  induction h with
  | one h => exact h1 _ h
  | step _ h ih => exact h2 _ ih _ h
theorem aGU : above sA nG nU = false := by
  unfold above
  rw [decide_eq_false_iff_not]
  intro h
  have := Reach.inv (S := fun y => y = nG) (fun y hy => by rw [show tyIn sA nG = [nG] from by decide] at hy; simpa using hy) (fun x hx y hy => by subst hx; rw [show tyIn sA nG = [nG] from by decide] at hy; simpa using hy) h
  exact absurd this (by decide)
theorem aGG : above sA nG nG = true := by
  unfold above
  exact @decide_eq_true _ (Classical.propDecidable _) (Reach.one (by decide))
theorem aUG : above sA nU nG = true := by
  unfold above
  exact @decide_eq_true _ (Classical.propDecidable _) (Reach.one (by decide))
theorem lVA : leadsA sA nV nA' = true := by
  unfold leadsA
  exact @decide_eq_true _ (Classical.propDecidable _) (Reach.one (by decide))
theorem lAx (x : Str) : leadsA sA nA' x = false := by
  unfold leadsA
  rw [decide_eq_false_iff_not]
  intro h
  exact Reach.inv (S := fun y => False) (fun y hy => by rw [show acIn sA nA' = [] from by decide] at hy; cases hy) (fun x hx => hx.elim) h
theorem lVV : leadsA sA nV nV = false := by
  unfold leadsA
  rw [decide_eq_false_iff_not]
  intro h
  have := Reach.inv (S := fun y => y = nA') (fun y hy => by rw [show acIn sA nV = [nA'] from by decide] at hy; simpa using hy) (fun x hx y hy => by subst hx; rw [show acIn sA nA' = [] from by decide] at hy; cases hy) h
  exact absurd this (by decide)
theorem smA : smallIn sA := ⟨by decide, by decide⟩
theorem okA : OkS sA := ⟨smA, by decide, by decide, by decide, by decide⟩
theorem okB : OkS sB := ⟨⟨by decide, by decide⟩, by decide, by decide, by decide, by decide⟩
theorem chkA : chkS sA = 0 := by
  unfold chkS
  rw [if_neg (by decide), if_neg (by decide), if_neg (by decide), if_neg]
  simp only [sA, List.any_cons, List.any_nil, Bool.or_false, Bool.or_eq_true, not_or, Bool.not_eq_true]
  exact ⟨lVV, lAx _⟩
theorem chkB : chkS sB = 40 := by
  unfold chkS
  rw [if_neg (by decide), if_pos (by decide)]
theorem rdObj_cons {F : Base} {H : Hp} {b : Nat} {o : Obj} (hb : ∀ e ∈ H, e.1 ≠ b) (hF : F b = none) : ∀ x ob, rdObj F H x = some ob → rdObj F ((b, o) :: H) x = some ob := fun x ob h =>
  rdObj_app (A := [(b, o)]) (fun e' he' e he => by obtain rfl := List.mem_singleton.1 he'; exact hb e he) h
theorem repA {G : Base} {b1 b2 b3 b4 b5 b6 b7 : Nat} (h1 : G b1 = some (.cells #[.string (bs nG)] 9 (0, 0))) (h2 : G b2 = some (.cells #[.string (bs nG)] 9 (0, 0)))
    (h3 : G b3 = some (.cells #[.string (bs nU), .slice (some ⟨b1, 0, none⟩) 1 1, .slice none 0 0, .string (bs nG), .slice (some ⟨b2, 0, none⟩) 1 1, .slice none 0 0] 33 (0, 0)))
    (h4 : G b4 = some (.cells #[.string (bs nA')] 9 (0, 0))) (h5 : G b5 = some (.cells #[.string (bs nU)] 9 (0, 0))) (h6 : G b6 = some (.cells #[.string (bs nG), .string (bs nU)] 9 (0, 0)))
    (h7 : G b7 = some (.cells #[.string (bs nV), .slice (some ⟨b4, 0, none⟩) 1 1, .slice (some ⟨b5, 0, none⟩) 1 1, .slice (some ⟨b6, 0, none⟩) 2 2, .slice none 0 0, .string (bs nA'), .slice none 0 0, .slice none 0 0, .slice none 0 0, .slice none 0 0] 37 (0, 0))) :
    RepH G [.slice (some ⟨b3, 0, none⟩) 2 2, .slice (some ⟨b7, 0, none⟩) 2 2] sA := by
  have one : ∀ (b : Nat) (s : Str), G b = some (.cells #[.string (bs s)] 9 (0, 0)) → s.length ≤ 100 → SlS G (.slice (some ⟨b, 0, none⟩) 1 1) [s] := fun b s h hl => by
    refine ⟨_, 1, rfl, by simp, by simp, fun i x hx => ?_, fun i x hx => ?_⟩
    all_goals
      rcases i with _ | i
      · simp only [List.getElem?_cons_zero, Option.some.injEq] at hx
        subst hx
        first | omega | exact ⟨b, 0, _, _, _, rfl, h, by simp, by simp⟩
      · simp at hx
  have nS : SlS G (.slice none 0 0) [] := ⟨_, 0, rfl, by simp, by simp, fun i x hx => by simp at hx, fun i x hx => by simp at hx⟩
  have nAt : SlA G (.slice none 0 0) [] := ⟨_, 0, fun _ => [], rfl, by simp, by simp, ⟨fun i x hx => by simp at hx, fun i x hx => by simp at hx⟩, fun i x hx => by simp at hx⟩
  have two : SlS G (.slice (some ⟨b6, 0, none⟩) 2 2) [nG, nU] := by
    refine ⟨_, 2, rfl, by simp, by simp, fun i x hx => ?_, fun i x hx => ?_⟩
    all_goals
      rcases i with _ | _ | i
      · simp only [List.getElem?_cons_zero, Option.some.injEq] at hx
        subst hx
        first | exact ⟨b6, 0, _, _, _, rfl, h6, by simp, by simp⟩ | simp
      · simp only [List.getElem?_cons_succ, List.getElem?_cons_zero, Option.some.injEq] at hx
        subst hx
        first | exact ⟨b6, 0, _, _, _, rfl, h6, by simp, by simp⟩ | simp
      · simp at hx
  refine RepH.mk (some ⟨b3, 0, none⟩) (some ⟨b7, 0, none⟩) 2 2 [⟨nU, [nG], []⟩, ⟨nG, [nG], []⟩] [⟨nV, [nA'], [nU], [nG, nU], []⟩, ⟨nA', [], [], [], []⟩]
    (fun i => if i = 0 then [.string (bs nU), .slice (some ⟨b1, 0, none⟩) 1 1, .slice none 0 0] else [.string (bs nG), .slice (some ⟨b2, 0, none⟩) 1 1, .slice none 0 0])
    (fun i => if i = 0 then [.string (bs nV), .slice (some ⟨b4, 0, none⟩) 1 1, .slice (some ⟨b5, 0, none⟩) 1 1, .slice (some ⟨b6, 0, none⟩) 2 2, .slice none 0 0] else [.string (bs nA'), .slice none 0 0, .slice none 0 0, .slice none 0 0, .slice none 0 0])
    (by simp) (by simp) (by simp) (by simp) (fun i x hx => ?_) (fun i x hx => ?_)
  · rcases i with _ | _ | i
    · simp only [List.getElem?_cons_zero, Option.some.injEq] at hx
      subst hx
      exact ⟨⟨b3, 0, _, _, _, rfl, h3, by simp, by simp⟩, _, _, rfl, by simp, one b1 nG h1 (by simp), nAt⟩
    · simp only [List.getElem?_cons_succ, List.getElem?_cons_zero, Option.some.injEq] at hx
      subst hx
      exact ⟨⟨b3, 0, _, _, _, rfl, h3, by simp, by simp⟩, _, _, rfl, by simp, one b2 nG h2 (by simp), nAt⟩
    · simp at hx
  · rcases i with _ | _ | i
    · simp only [List.getElem?_cons_zero, Option.some.injEq] at hx
      subst hx
      exact ⟨⟨b7, 0, _, _, _, rfl, h7, by simp, by simp⟩, _, _, _, _, rfl, by simp, one b4 nA' h4 (by simp), one b5 nU h5 (by simp), two, nAt⟩
    · simp only [List.getElem?_cons_succ, List.getElem?_cons_zero, Option.some.injEq] at hx
      subst hx
      exact ⟨⟨b7, 0, _, _, _, rfl, h7, by simp, by simp⟩, _, _, _, _, rfl, by simp, nS, nS, nS, nAt⟩
    · simp at hx
theorem repB {G : Base} {b : Nat} (h : G b = some (.cells #[.string (bs actS), .slice none 0 0, .slice none 0 0] 33 (0, 0))) : RepH G [.slice (some ⟨b, 0, none⟩) 1 1, .slice none 0 0] sB := by
  have nS : SlS G (.slice none 0 0) [] := ⟨_, 0, rfl, by simp, by simp, fun i x hx => by simp at hx, fun i x hx => by simp at hx⟩
  have nAt : SlA G (.slice none 0 0) [] := ⟨_, 0, fun _ => [], rfl, by simp, by simp, ⟨fun i x hx => by simp at hx, fun i x hx => by simp at hx⟩, fun i x hx => by simp at hx⟩
  refine RepH.mk (some ⟨b, 0, none⟩) none 1 0 [⟨actS, [], []⟩] [] (fun _ => [.string (bs actS), .slice none 0 0, .slice none 0 0]) (fun _ => []) (by simp) (by simp) (by simp) (by simp) (fun i x hx => ?_) (fun i x hx => by simp at hx)
  rcases i with _ | i
  · simp only [List.getElem?_cons_zero, Option.some.injEq] at hx
    subst hx
    exact ⟨⟨b, 0, _, _, _, rfl, h, by simp, by simp⟩, _, _, rfl, by simp [actS], nS, nAt⟩
  · simp at hx
theorem rdObj_ext {F : Base} {A B : Hp} : ∀ x ob, rdObj F A x = some ob → rdObj F (A ++ B) x = some ob := by
  intro x ob h
  unfold rdObj at *
  cases hF : F x with
  | some o' => rw [hF] at h; exact h
  | none =>
    rw [hF] at h
    simp only at h ⊢
    rw [lk_append, h]
theorem stp_bslice_guard {P : Program} {X : List Nat} {F : Base} {w0 : World} {N T len l : Nat} {z : List Value} {ps : List (Nat × Nat × Eng.X)} {d : Option Nat} {U : Fr} {C : Cf} {H : Hp} {next : Fr → Cf → Hp → Prop} {k : Kind} {ob : Prop} {out : List Value} (hr : fillL (rd U C (chain C (some l))) z ps = some (ob, out))
    (h1 : Wf U C (chain C (some l)) (chain C (some l)) → ob ∧ @NewB F H (.cells out.toArray T) ⟨fun b H' => put d (chain C (some l)) (.slice (some ⟨b, 0, none⟩) len len) U C H' next⟩) (h2 : NW U C (chain C (some l)) → skp d (chain C (some l)) U C (fun U C => next U C H)) :
    stp P X F w0 N ⟨d, .bslice T len z ps, some l, k⟩ U C H next := by
  unfold stp
  simp only [hr]
  exact ⟨h1, h2⟩
theorem awake_pure (F : Base) (hg : HasM F) : PureV Tryd.prog F 8 #[] (.bool true) := by
  refine pureV_of_svc mixed Tryd.func8 low8x (Nat.le_of_ble_eq_true rfl) (fun w0 => ?_)
  simp (disch := first | assumption | exact Ne.symm (by assumption) | omega) only [fu8x, ↓ZD, ZU, ne_eq, Zaa, Zab, false_implies, Zac, Zad, Zae, Zaf, Zag, Zah, Zai, Zaj, Zak, Zal, Zam, Zan, Zao, Zap, Zaq, Zar, Zas, Zat, Zau, Zav, Zaw, Zax, Zay, Zaz, Za0, Za1, decide_true, decide_false, beq_self_eq_true, cond_true, cond_false, if_false, if_true, reduceIte, reduceCtorEq, not_true_eq_false, not_false_eq_true, true_and, and_true, forall_const, false_and, and_false, implies_true, Za2, Za3, Za4, Za5]
  refine NewB.of fun b6 hb6 hF6 => ?_
  simp (disch := first | assumption | exact Ne.symm (by assumption) | omega) only [↓ZD, ZU, ne_eq, Zaa, Zab, false_implies, Zac, Zad, Zae, Zaf, Zag, Zah, Zai, Zaj, Zak, Zal, Zam, Zan, Zao, Zap, Zaq, Zar, Zas, Zat, Zau, Zav, Zaw, Zax, Zay, Zaz, Za0, Za1, decide_true, decide_false, beq_self_eq_true, cond_true, cond_false, if_false, if_true, reduceIte, reduceCtorEq, not_true_eq_false, not_false_eq_true, true_and, and_true, forall_const, false_and, and_false, implies_true, Za2, Za3, Za4, Za5]
  refine NewB.of fun b8 hb8 hF8 => ?_
  simp only [List.forall_mem_cons] at hb8
  obtain ⟨_, hb8⟩ := hb8
  simp (disch := first | assumption | exact Ne.symm (by assumption) | omega) only [↓ZD, ZU, ne_eq, Zaa, Zab, false_implies, Zac, Zad, Zae, Zaf, Zag, Zah, Zai, Zaj, Zak, Zal, Zam, Zan, Zao, Zap, Zaq, Zar, Zas, Zat, Zau, Zav, Zaw, Zax, Zay, Zaz, Za0, Za1, decide_true, decide_false, beq_self_eq_true, cond_true, cond_false, if_false, if_true, reduceIte, reduceCtorEq, not_true_eq_false, not_false_eq_true, true_and, and_true, forall_const, false_and, and_false, implies_true, Za2, Za3, Za4, Za5]
  refine NewB.of fun b10 hb10 hF10 => ?_
  simp only [List.forall_mem_cons] at hb10
  obtain ⟨_, _, hb10⟩ := hb10
  simp (disch := first | assumption | exact Ne.symm (by assumption) | omega) only [↓ZD, ZU, ne_eq, Zaa, Zab, false_implies, Zac, Zad, Zae, Zaf, Zag, Zah, Zai, Zaj, Zak, Zal, Zam, Zan, Zao, Zap, Zaq, Zar, Zas, Zat, Zau, Zav, Zaw, Zax, Zay, Zaz, Za0, Za1, decide_true, decide_false, beq_self_eq_true, cond_true, cond_false, if_false, if_true, reduceIte, reduceCtorEq, not_true_eq_false, not_false_eq_true, true_and, and_true, forall_const, false_and, and_false, implies_true, Za2, Za3, Za4, Za5]
  refine NewB.of fun b11 hb11 hF11 => ?_
  simp only [List.forall_mem_cons] at hb11
  obtain ⟨_, _, _, hb11⟩ := hb11
  simp (disch := first | assumption | exact Ne.symm (by assumption) | omega) only [↓ZD, ZU, ne_eq, Zaa, Zab, false_implies, Zac, Zad, Zae, Zaf, Zag, Zah, Zai, Zaj, Zak, Zal, Zam, Zan, Zao, Zap, Zaq, Zar, Zas, Zat, Zau, Zav, Zaw, Zax, Zay, Zaz, Za0, Za1, decide_true, decide_false, beq_self_eq_true, cond_true, cond_false, if_false, if_true, reduceIte, reduceCtorEq, not_true_eq_false, not_false_eq_true, true_and, and_true, forall_const, false_and, and_false, implies_true, Za2, Za3, Za4, Za5]
  refine NewB.of fun b12 hb12 hF12 => ?_
  simp only [List.forall_mem_cons] at hb12
  obtain ⟨_, _, _, _, hb12⟩ := hb12
  simp (disch := first | assumption | exact Ne.symm (by assumption) | omega) only [↓ZD, ZU, ne_eq, Zaa, Zab, false_implies, Zac, Zad, Zae, Zaf, Zag, Zah, Zai, Zaj, Zak, Zal, Zam, Zan, Zao, Zap, Zaq, Zar, Zas, Zat, Zau, Zav, Zaw, Zax, Zay, Zaz, Za0, Za1, decide_true, decide_false, beq_self_eq_true, cond_true, cond_false, if_false, if_true, reduceIte, reduceCtorEq, not_true_eq_false, not_false_eq_true, true_and, and_true, forall_const, false_and, and_false, implies_true, Za2, Za3, Za4, Za5]
  refine NewB.of fun b13 hb13 hF13 => ?_
  simp only [List.forall_mem_cons] at hb13
  obtain ⟨_, _, _, _, _, hb13⟩ := hb13
  simp (disch := first | assumption | exact Ne.symm (by assumption) | omega) only [↓ZD, ZU, ne_eq, Zaa, Zab, false_implies, Zac, Zad, Zae, Zaf, Zag, Zah, Zai, Zaj, Zak, Zal, Zam, Zan, Zao, Zap, Zaq, Zar, Zas, Zat, Zau, Zav, Zaw, Zax, Zay, Zaz, Za0, Za1, decide_true, decide_false, beq_self_eq_true, cond_true, cond_false, if_false, if_true, reduceIte, reduceCtorEq, not_true_eq_false, not_false_eq_true, true_and, and_true, forall_const, false_and, and_false, implies_true, Za2, Za3, Za4, Za5]
  refine NewB.of fun b16 hb16 hF16 => ?_
  simp only [List.forall_mem_cons] at hb16
  obtain ⟨_, _, _, _, _, _, hb16⟩ := hb16
  simp (disch := first | assumption | exact Ne.symm (by assumption) | omega) only [↓ZD, ZU, ne_eq, Zaa, Zab, false_implies, Zac, Zad, Zae, Zaf, Zag, Zah, Zai, Zaj, Zak, Zal, Zam, Zan, Zao, Zap, Zaq, Zar, Zas, Zat, Zau, Zav, Zaw, Zax, Zay, Zaz, Za0, Za1, decide_true, decide_false, beq_self_eq_true, cond_true, cond_false, if_false, if_true, reduceIte, reduceCtorEq, not_true_eq_false, not_false_eq_true, true_and, and_true, forall_const, false_and, and_false, implies_true, Za2, Za3, Za4, Za5]
  refine NewB.of fun b1 hb1 hF1 => ?_
  simp only [List.forall_mem_cons] at hb1
  obtain ⟨_, _, _, _, _, _, _, hb1⟩ := hb1
  simp (disch := first | assumption | exact Ne.symm (by assumption) | omega) only [↓ZD, ZU, ne_eq, Zaa, Zab, false_implies, Zac, Zad, Zae, Zaf, Zag, Zah, Zai, Zaj, Zak, Zal, Zam, Zan, Zao, Zap, Zaq, Zar, Zas, Zat, Zau, Zav, Zaw, Zax, Zay, Zaz, Za0, Za1, decide_true, decide_false, beq_self_eq_true, cond_true, cond_false, if_false, if_true, reduceIte, reduceCtorEq, not_true_eq_false, not_false_eq_true, true_and, and_true, forall_const, false_and, and_false, implies_true, Za2, Za3, Za4, Za5]
  obtain ⟨H8, hH8⟩ : ∃ H8 : Hp, H8 = [(b1, .cells #[.slice (some ⟨b10, 0, none⟩) 2 2, .slice (some ⟨b16, 0, none⟩) 2 2] 25 (0, 0)), (b16, .cells #[.string (bs [118]), .slice (some ⟨b11, 0, none⟩) 1 1, .slice (some ⟨b12, 0, none⟩) 1 1, .slice (some ⟨b13, 0, none⟩) 2 2, .slice none 0 0, .string (bs [97, 108, 108]), .slice none 0 0, .slice none 0 0, .slice none 0 0, .slice none 0 0] 37 (0, 0)),
      (b13, .cells #[.string (bs [71, 114, 111, 117, 112]), .string (bs [85, 115, 101, 114])] 9 (0, 0)), (b12, .cells #[.string (bs [85, 115, 101, 114])] 9 (0, 0)), (b11, .cells #[.string (bs [97, 108, 108])] 9 (0, 0)),
      (b10, .cells #[.string (bs [85, 115, 101, 114]), .slice (some ⟨b6, 0, none⟩) 1 1, .slice none 0 0, .string (bs [71, 114, 111, 117, 112]), .slice (some ⟨b8, 0, none⟩) 1 1, .slice none 0 0] 33 (0, 0)), (b8, .cells #[.string (bs [71, 114, 111, 117, 112])] 9 (0, 0)), (b6, .cells #[.string (bs [71, 114, 111, 117, 112])] 9 (0, 0))] := ⟨_, rfl⟩
  rw [← hH8]
  have hL : lk H8 b1 = some (.cells #[.slice (some ⟨b10, 0, none⟩) 2 2, .slice (some ⟨b16, 0, none⟩) 2 2] 25 (0, 0)) := by rw [hH8]; simp (disch := first | assumption | exact Ne.symm (by assumption) | omega) only [↓ZD, ZU, ne_eq, Zaa, Zab, false_implies, Zac, Zad, Zae, Zaf, Zag, Zah, Zai, Zaj, Zak, Zal, Zam, Zan, Zao, Zap, Zaq, Zar, Zas, Zat, Zau, Zav, Zaw, Zax, Zay, Zaz, Za0, Za1, decide_true, decide_false, beq_self_eq_true, cond_true, cond_false, if_false, if_true, reduceIte, reduceCtorEq, not_true_eq_false, not_false_eq_true, true_and, and_true, forall_const, false_and, and_false, implies_true, Za2, Za3, Za4, Za5]
  have hR : RepH (rdObj F H8) [.slice (some ⟨b10, 0, none⟩) 2 2, .slice (some ⟨b16, 0, none⟩) 2 2] sA := by
    rw [hH8]
    exact repA (b1 := b6) (b2 := b8) (b4 := b11) (b5 := b12) (b6 := b13) (by simp (disch := first | assumption | exact Ne.symm (by assumption) | omega) only [↓ZD, ZU, ne_eq, Zaa, Zab, false_implies, Zac, Zad, Zae, Zaf, Zag, Zah, Zai, Zaj, Zak, Zal, Zam, Zan, Zao, Zap, Zaq, Zar, Zas, Zat, Zau, Zav, Zaw, Zax, Zay, Zaz, Za0, Za1, decide_true, decide_false, beq_self_eq_true, cond_true, cond_false, if_false, if_true, reduceIte, reduceCtorEq, not_true_eq_false, not_false_eq_true, true_and, and_true, forall_const, false_and, and_false, implies_true, Za2, Za3, Za4, Za5]) (by simp (disch := first | assumption | exact Ne.symm (by assumption) | omega) only [↓ZD, ZU, ne_eq, Zaa, Zab, false_implies, Zac, Zad, Zae, Zaf, Zag, Zah, Zai, Zaj, Zak, Zal, Zam, Zan, Zao, Zap, Zaq, Zar, Zas, Zat, Zau, Zav, Zaw, Zax, Zay, Zaz, Za0, Za1, decide_true, decide_false, beq_self_eq_true, cond_true, cond_false, if_false, if_true, reduceIte, reduceCtorEq, not_true_eq_false, not_false_eq_true, true_and, and_true, forall_const, false_and, and_false, implies_true, Za2, Za3, Za4, Za5]) (by simp (disch := first | assumption | exact Ne.symm (by assumption) | omega) only [↓ZD, ZU, ne_eq, Zaa, Zab, false_implies, Zac, Zad, Zae, Zaf, Zag, Zah, Zai, Zaj, Zak, Zal, Zam, Zan, Zao, Zap, Zaq, Zar, Zas, Zat, Zau, Zav, Zaw, Zax, Zay, Zaz, Za0, Za1, decide_true, decide_false, beq_self_eq_true, cond_true, cond_false, if_false, if_true, reduceIte, reduceCtorEq, not_true_eq_false, not_false_eq_true, true_and, and_true, forall_const, false_and, and_false, implies_true, Za2, Za3, Za4, Za5]) (by simp (disch := first | assumption | exact Ne.symm (by assumption) | omega) only [↓ZD, ZU, ne_eq, Zaa, Zab, false_implies, Zac, Zad, Zae, Zaf, Zag, Zah, Zai, Zaj, Zak, Zal, Zam, Zan, Zao, Zap, Zaq, Zar, Zas, Zat, Zau, Zav, Zaw, Zax, Zay, Zaz, Za0, Za1, decide_true, decide_false, beq_self_eq_true, cond_true, cond_false, if_false, if_true, reduceIte, reduceCtorEq, not_true_eq_false, not_false_eq_true, true_and, and_true, forall_const, false_and, and_false, implies_true, Za2, Za3, Za4, Za5]) (by simp (disch := first | assumption | exact Ne.symm (by assumption) | omega) only [↓ZD, ZU, ne_eq, Zaa, Zab, false_implies, Zac, Zad, Zae, Zaf, Zag, Zah, Zai, Zaj, Zak, Zal, Zam, Zan, Zao, Zap, Zaq, Zar, Zas, Zat, Zau, Zav, Zaw, Zax, Zay, Zaz, Za0, Za1, decide_true, decide_false, beq_self_eq_true, cond_true, cond_false, if_false, if_true, reduceIte, reduceCtorEq, not_true_eq_false, not_false_eq_true, true_and, and_true, forall_const, false_and, and_false, implies_true, Za2, Za3, Za4, Za5]) (by simp (disch := first | assumption | exact Ne.symm (by assumption) | omega) only [↓ZD, ZU, ne_eq, Zaa, Zab, false_implies, Zac, Zad, Zae, Zaf, Zag, Zah, Zai, Zaj, Zak, Zal, Zam, Zan, Zao, Zap, Zaq, Zar, Zas, Zat, Zau, Zav, Zaw, Zax, Zay, Zaz, Za0, Za1, decide_true, decide_false, beq_self_eq_true, cond_true, cond_false, if_false, if_true, reduceIte, reduceCtorEq, not_true_eq_false, not_false_eq_true, true_and, and_true, forall_const, false_and, and_false, implies_true, Za2, Za3, Za4, Za5]) (by simp (disch := first | assumption | exact Ne.symm (by assumption) | omega) only [↓ZD, ZU, ne_eq, Zaa, Zab, false_implies, Zac, Zad, Zae, Zaf, Zag, Zah, Zai, Zaj, Zak, Zal, Zam, Zan, Zao, Zap, Zaq, Zar, Zas, Zat, Zau, Zav, Zaw, Zax, Zay, Zaz, Za0, Za1, decide_true, decide_false, beq_self_eq_true, cond_true, cond_false, if_false, if_true, reduceIte, reduceCtorEq, not_true_eq_false, not_false_eq_true, true_and, and_true, forall_const, false_and, and_false, implies_true, Za2, Za3, Za4, Za5])
  clear hH8 hb6 hb8 hb10 hb11 hb12 hb13 hb16 hb1
  obtain ⟨cs, hcs, hty⟩ := type_pure (rdObj F H8) hR nG
  have e : (if tyI sA nG < 0 then nilE else sA.types.getD (tyI sA nG).toNat nilE) = ⟨nG, [nG], []⟩ := rfl
  rw [e] at hcs
  obtain ⟨v1, v2, rfl, -, ⟨a1, c1, rfl, -⟩, ⟨a2, c2, _, rfl, -⟩⟩ := hcs
  rw [show decide (0 ≤ tyI sA nG) = true from by decide] at hty
  refine CallE.pureH hty ?_
  simp (disch := first | assumption | exact Ne.symm (by assumption) | omega) only [hF1, hL, ↓ZD, ZU, ne_eq, Zaa, Zab, false_implies, Zac, Zad, Zae, Zaf, Zag, Zah, Zai, Zaj, Zak, Zal, Zam, Zan, Zao, Zap, Zaq, Zar, Zas, Zat, Zau, Zav, Zaw, Zax, Zay, Zaz, Za0, Za1, decide_true, decide_false, beq_self_eq_true, cond_true, cond_false, if_false, if_true, reduceIte, reduceCtorEq, not_true_eq_false, not_false_eq_true, true_and, and_true, forall_const, false_and, and_false, implies_true, Za2, Za3, Za4, Za5]
  refine NewB.of fun b2 hb2 hF2 => ?_
  have h21 : b1 ≠ b2 := hb2 _ (lk_mem hL)
  have hup2 : ∀ o, upd H8 b2 o = H8 := fun o => upd_new hb2
  have hR2 := hR.mono (rdObj_cons (o := .cells #[.string (bs nG), .slice a1 1 c1, .slice a2 0 c2] 33 (0, 0)) hb2 hF2)
  have hL2 : lk ((b2, (.cells #[.string (bs nG), .slice a1 1 c1, .slice a2 0 c2] 33 (0, 0) : Obj)) :: H8) b1 = some (.cells #[.slice (some ⟨b10, 0, none⟩) 2 2, .slice (some ⟨b16, 0, none⟩) 2 2] 25 (0, 0)) := by simp (disch := first | assumption | exact Ne.symm (by assumption) | omega) only [hL, ↓ZD, ZU, ne_eq, Zaa, Zab, false_implies, Zac, Zad, Zae, Zaf, Zag, Zah, Zai, Zaj, Zak, Zal, Zam, Zan, Zao, Zap, Zaq, Zar, Zas, Zat, Zau, Zav, Zaw, Zax, Zay, Zaz, Za0, Za1, decide_true, decide_false, beq_self_eq_true, cond_true, cond_false, if_false, if_true, reduceIte, reduceCtorEq, not_true_eq_false, not_false_eq_true, true_and, and_true, forall_const, false_and, and_false, implies_true, Za2, Za3, Za4, Za5]
  simp (disch := first | assumption | exact Ne.symm (by assumption) | omega) only [hF1, hF2, hup2, hL, ↓ZD, ZU, ne_eq, Zaa, Zab, false_implies, Zac, Zad, Zae, Zaf, Zag, Zah, Zai, Zaj, Zak, Zal, Zam, Zan, Zao, Zap, Zaq, Zar, Zas, Zat, Zau, Zav, Zaw, Zax, Zay, Zaz, Za0, Za1, decide_true, decide_false, beq_self_eq_true, cond_true, cond_false, if_false, if_true, reduceIte, reduceCtorEq, not_true_eq_false, not_false_eq_true, true_and, and_true, forall_const, false_and, and_false, implies_true, Za2, Za3, Za4, Za5]
  obtain ⟨ds, hds, hac⟩ := action_pure _ hR2 nV
  have e : (if acI sA nV < 0 then nilC else sA.acts.getD (acI sA nV).toNat nilC) = ⟨nV, [nA'], [nU], [nG, nU], []⟩ := rfl
  rw [e] at hds
  obtain ⟨v1, v2, v3, v4, rfl, -, ⟨a3, c3, rfl, -⟩, ⟨a4, c4, rfl, -⟩, ⟨a5, c5, rfl, -⟩, ⟨a6, c6, _, rfl, -⟩⟩ := hds
  rw [show decide (0 ≤ acI sA nV) = true from by decide] at hac
  refine CallE.pureH hac ?_
  simp (disch := first | assumption | exact Ne.symm (by assumption) | omega) only [hF1, hF2, hup2, hL, ↓ZD, ZU, ne_eq, Zaa, Zab, false_implies, Zac, Zad, Zae, Zaf, Zag, Zah, Zai, Zaj, Zak, Zal, Zam, Zan, Zao, Zap, Zaq, Zar, Zas, Zat, Zau, Zav, Zaw, Zax, Zay, Zaz, Za0, Za1, decide_true, decide_false, beq_self_eq_true, cond_true, cond_false, if_false, if_true, reduceIte, reduceCtorEq, not_true_eq_false, not_false_eq_true, true_and, and_true, forall_const, false_and, and_false, implies_true, Za2, Za3, Za4, Za5]
  refine NewB.of fun b4 hb4 hF4 => ?_
  simp only [List.forall_mem_cons] at hb4
  obtain ⟨h42, hb4⟩ := hb4
  have h41 : b1 ≠ b4 := hb4 _ (lk_mem hL)
  have hup4 : ∀ o, upd H8 b4 o = H8 := fun o => upd_new hb4
  simp (disch := first | assumption | exact Ne.symm (by assumption) | omega) only [hF1, hF2, hF4, hup2, hup4, hL, ↓ZD, ZU, ne_eq, Zaa, Zab, false_implies, Zac, Zad, Zae, Zaf, Zag, Zah, Zai, Zaj, Zak, Zal, Zam, Zan, Zao, Zap, Zaq, Zar, Zas, Zat, Zau, Zav, Zaw, Zax, Zay, Zaz, Za0, Za1, decide_true, decide_false, beq_self_eq_true, cond_true, cond_false, if_false, if_true, reduceIte, reduceCtorEq, not_true_eq_false, not_false_eq_true, true_and, and_true, forall_const, false_and, and_false, implies_true, Za2, Za3, Za4, Za5]
  have hR4 := hR2.mono (rdObj_cons (o := .cells #[.string (bs nV), .slice a3 1 c3, .slice a4 1 c4, .slice a5 2 c5, .slice a6 0 c6] 37 (0, 0)) (List.forall_mem_cons.2 ⟨h42, hb4⟩) hF4)
  have hg4 : HasM (rdObj F ((b4, .cells #[.string (bs nV), .slice a3 1 c3, .slice a4 1 c4, .slice a5 2 c5, .slice a6 0 c6] 37 (0, 0)) :: (b2, .cells #[.string (bs nG), .slice a1 1 c1, .slice a2 0 c2] 33 (0, 0)) :: H8)) := hg.mono le_up
  have kchk := schema_check _ hg4 hR4 okA
  have kUG := above_pure _ hR4 smA nU nG
  have kGG := above_pure _ hR4 smA nG nG
  have kGU := above_pure _ hR4 smA nG nU
  have kenv := envs_does _ hR4 (by decide)
  rw [chkA] at kchk
  rw [aUG] at kUG
  rw [aGG] at kGG
  rw [aGU] at kGU
  refine CallE.pureH kchk ?_
  simp (disch := first | assumption | exact Ne.symm (by assumption) | omega) only [hF1, hF2, hF4, hup2, hup4, hL, ↓ZD, ZU, ne_eq, Zaa, Zab, false_implies, Zac, Zad, Zae, Zaf, Zag, Zah, Zai, Zaj, Zak, Zal, Zam, Zan, Zao, Zap, Zaq, Zar, Zas, Zat, Zau, Zav, Zaw, Zax, Zay, Zaz, Za0, Za1, decide_true, decide_false, beq_self_eq_true, cond_true, cond_false, if_false, if_true, reduceIte, reduceCtorEq, not_true_eq_false, not_false_eq_true, true_and, and_true, forall_const, false_and, and_false, implies_true, Za2, Za3, Za4, Za5]
  refine CallQ.of _ kUG ?_
  simp (disch := first | assumption | exact Ne.symm (by assumption) | omega) only [hF1, hF2, hF4, hup2, hup4, hL, ↓ZD, ZU, ne_eq, Zaa, Zab, false_implies, Zac, Zad, Zae, Zaf, Zag, Zah, Zai, Zaj, Zak, Zal, Zam, Zan, Zao, Zap, Zaq, Zar, Zas, Zat, Zau, Zav, Zaw, Zax, Zay, Zaz, Za0, Za1, decide_true, decide_false, beq_self_eq_true, cond_true, cond_false, if_false, if_true, reduceIte, reduceCtorEq, not_true_eq_false, not_false_eq_true, true_and, and_true, forall_const, false_and, and_false, implies_true, Za2, Za3, Za4, Za5]
  refine CallQ.of _ kGG ?_
  simp (disch := first | assumption | exact Ne.symm (by assumption) | omega) only [hF1, hF2, hF4, hup2, hup4, hL, ↓ZD, ZU, ne_eq, Zaa, Zab, false_implies, Zac, Zad, Zae, Zaf, Zag, Zah, Zai, Zaj, Zak, Zal, Zam, Zan, Zao, Zap, Zaq, Zar, Zas, Zat, Zau, Zav, Zaw, Zax, Zay, Zaz, Za0, Za1, decide_true, decide_false, beq_self_eq_true, cond_true, cond_false, if_false, if_true, reduceIte, reduceCtorEq, not_true_eq_false, not_false_eq_true, true_and, and_true, forall_const, false_and, and_false, implies_true, Za2, Za3, Za4, Za5]
  refine CallQ.of _ kGU ?_
  simp (disch := first | assumption | exact Ne.symm (by assumption) | omega) only [hF1, hF2, hF4, hup2, hup4, hL, ↓ZD, ZU, ne_eq, Zaa, Zab, false_implies, Zac, Zad, Zae, Zaf, Zag, Zah, Zai, Zaj, Zak, Zal, Zam, Zan, Zao, Zap, Zaq, Zar, Zas, Zat, Zau, Zav, Zaw, Zax, Zay, Zaz, Za0, Za1, decide_true, decide_false, beq_self_eq_true, cond_true, cond_false, if_false, if_true, reduceIte, reduceCtorEq, not_true_eq_false, not_false_eq_true, true_and, and_true, forall_const, false_and, and_false, implies_true, Za2, Za3, Za4, Za5]
  refine stp_call_guard (vs := [.agg #[.slice (some ⟨b10, 0, none⟩) 2 2, .slice (some ⟨b16, 0, none⟩) 2 2]]) (by simp (disch := first | assumption | exact Ne.symm (by assumption) | omega) only [↓ZD, ZU, ne_eq, Zaa, Zab, false_implies, Zac, Zad, Zae, Zaf, Zag, Zah, Zai, Zaj, Zak, Zal, Zam, Zan, Zao, Zap, Zaq, Zar, Zas, Zat, Zau, Zav, Zaw, Zax, Zay, Zaz, Za0, Za1, decide_true, decide_false, beq_self_eq_true, cond_true, cond_false, if_false, if_true, reduceIte, reduceCtorEq, not_true_eq_false, not_false_eq_true, true_and, and_true, forall_const, false_and, and_false, implies_true, Za2, Za3, Za4, Za5]) (fun h => ?_) (fun h => ?_)
  · refine CallE.news kenv ?_
    rintro v H' hown - hd' -
    rcases hown.out with ⟨-, h0, -, -⟩ | ⟨b, cap, sp, rfl, rfl, -⟩
    · exact absurd h0 (by decide)
    have hL5 : ∀ o, lk (H8 ++ [(b, o)]) b1 = some (.cells #[.slice (some ⟨b10, 0, none⟩) 2 2, .slice (some ⟨b16, 0, none⟩) 2 2] 25 (0, 0)) := fun o => by rw [lk_append, hL]
    have hR5 := hR4.mono (rdObj_ext (B := [(b, (.cells (cellsV (envs sA) ++ sp).toArray 44 (0, 0) : Obj))]))
    have kVA := actIn_pure _ hR5 smA nV nA'
    have kAV := actIn_pure _ hR5 smA nA' nV
    rw [lVA, show (nV == nA' || true) = true from by decide] at kVA
    rw [lAx, show (nA' == nV || false) = false from by decide] at kAV
    rw [show (envs sA).length = 2 from rfl]
    simp only [List.cons_append] at *
    simp (disch := first | assumption | exact Ne.symm (by assumption) | omega) only [hL5, ↓ZD, ZU, ne_eq, Zaa, Zab, false_implies, Zac, Zad, Zae, Zaf, Zag, Zah, Zai, Zaj, Zak, Zal, Zam, Zan, Zao, Zap, Zaq, Zar, Zas, Zat, Zau, Zav, Zaw, Zax, Zay, Zaz, Za0, Za1, decide_true, decide_false, beq_self_eq_true, cond_true, cond_false, if_false, if_true, reduceIte, reduceCtorEq, not_true_eq_false, not_false_eq_true, true_and, and_true, forall_const, false_and, and_false, implies_true, Za2, Za3, Za4, Za5]
    refine CallQ.of _ kVA ?_
    simp (disch := first | assumption | exact Ne.symm (by assumption) | omega) only [hL5, ↓ZD, ZU, ne_eq, Zaa, Zab, false_implies, Zac, Zad, Zae, Zaf, Zag, Zah, Zai, Zaj, Zak, Zal, Zam, Zan, Zao, Zap, Zaq, Zar, Zas, Zat, Zau, Zav, Zaw, Zax, Zay, Zaz, Za0, Za1, decide_true, decide_false, beq_self_eq_true, cond_true, cond_false, if_false, if_true, reduceIte, reduceCtorEq, not_true_eq_false, not_false_eq_true, true_and, and_true, forall_const, false_and, and_false, implies_true, Za2, Za3, Za4, Za5]
    refine CallQ.of _ kAV ?_
    simp (disch := first | assumption | exact Ne.symm (by assumption) | omega) only [hL5, ↓ZD, ZU, ne_eq, Zaa, Zab, false_implies, Zac, Zad, Zae, Zaf, Zag, Zah, Zai, Zaj, Zak, Zal, Zam, Zan, Zao, Zap, Zaq, Zar, Zas, Zat, Zau, Zav, Zaw, Zax, Zay, Zaz, Za0, Za1, decide_true, decide_false, beq_self_eq_true, cond_true, cond_false, if_false, if_true, reduceIte, reduceCtorEq, not_true_eq_false, not_false_eq_true, true_and, and_true, forall_const, false_and, and_false, implies_true, Za2, Za3, Za4, Za5]
    refine stp_bslice_guard (ob := True) (out := [.string (bs actS), .slice none 0 0, .slice none 0 0]) (by simp (disch := first | assumption | exact Ne.symm (by assumption) | omega) only [↓ZD, ZU, ne_eq, Zaa, Zab, false_implies, Zac, Zad, Zae, Zaf, Zag, Zah, Zai, Zaj, Zak, Zal, Zam, Zan, Zao, Zap, Zaq, Zar, Zas, Zat, Zau, Zav, Zaw, Zax, Zay, Zaz, Za0, Za1, decide_true, decide_false, beq_self_eq_true, cond_true, cond_false, if_false, if_true, reduceIte, reduceCtorEq, not_true_eq_false, not_false_eq_true, true_and, and_true, forall_const, false_and, and_false, implies_true, Za2, Za3, Za4, Za5]; rfl) (fun h => ⟨trivial, NewB.of fun b9 hb9 hF9 => ?_⟩) (fun h => ?_)
    · simp (disch := first | assumption | exact Ne.symm (by assumption) | omega) only [↓ZD, ZU, ne_eq, Zaa, Zab, false_implies, Zac, Zad, Zae, Zaf, Zag, Zah, Zai, Zaj, Zak, Zal, Zam, Zan, Zao, Zap, Zaq, Zar, Zas, Zat, Zau, Zav, Zaw, Zax, Zay, Zaz, Za0, Za1, decide_true, decide_false, beq_self_eq_true, cond_true, cond_false, if_false, if_true, reduceIte, reduceCtorEq, not_true_eq_false, not_false_eq_true, true_and, and_true, forall_const, false_and, and_false, implies_true, Za2, Za3, Za4, Za5]
      have hk := schema_check _ (hg.mono (le_up (H := ((b9, (.cells #[.string (bs actS), .slice none 0 0, .slice none 0 0] 33 (0, 0) : Obj)) :: (b4, (.cells #[.string (bs nV), .slice a3 1 c3, .slice a4 1 c4, .slice a5 2 c5, .slice a6 0 c6] 37 (0, 0) : Obj)) :: (b2, (.cells #[.string (bs nG), .slice a1 1 c1, .slice a2 0 c2] 33 (0, 0) : Obj)) :: (H8 ++ [(b, (.cells (cellsV (envs sA) ++ sp).toArray 44 (0, 0) : Obj))]))))) (repB (b := b9) (by simp (disch := first | assumption | exact Ne.symm (by assumption) | omega) only [hF9, ↓ZD, ZU, ne_eq, Zaa, Zab, false_implies, Zac, Zad, Zae, Zaf, Zag, Zah, Zai, Zaj, Zak, Zal, Zam, Zan, Zao, Zap, Zaq, Zar, Zas, Zat, Zau, Zav, Zaw, Zax, Zay, Zaz, Za0, Za1, decide_true, decide_false, beq_self_eq_true, cond_true, cond_false, if_false, if_true, reduceIte, reduceCtorEq, not_true_eq_false, not_false_eq_true, true_and, and_true, forall_const, false_and, and_false, implies_true, Za2, Za3, Za4, Za5])) okB
      rw [chkB] at hk
      refine CallQ.of _ hk ?_
      simp (disch := first | assumption | exact Ne.symm (by assumption) | omega) only [↓ZD, ZU, ne_eq, Zaa, Zab, false_implies, Zac, Zad, Zae, Zaf, Zag, Zah, Zai, Zaj, Zak, Zal, Zam, Zan, Zao, Zap, Zaq, Zar, Zas, Zat, Zau, Zav, Zaw, Zax, Zay, Zaz, Za0, Za1, decide_true, decide_false, beq_self_eq_true, cond_true, cond_false, if_false, if_true, reduceIte, reduceCtorEq, not_true_eq_false, not_false_eq_true, true_and, and_true, forall_const, false_and, and_false, implies_true, Za2, Za3, Za4, Za5]
    · have h' : (true : Bool) = false := h
      cases h'
  · have h' : (true : Bool) = false := h
    cases h'
end Go.Proofs.YtnnieekbklmgdaaDoor
