/- The law PolicyConds returns true whatever it is given, and what it was given reads behind the call as it read before. Condition: none beyond the given row's own. -/
import Derived.Test.YtnenbihkcjgddaaGreatDoorRows
import Derived.WalkKit
import Derived.ProofKit
import Derived.OpenShut
import Derived.ShutString
import Derived.ChangeOld
import Derived.Below
import Derived.Carry
import Derived.Lay
import Derived.MakeChecks
import Derived.SevenTiedAt
import Derived.Stop.Joined
import Derived.Test.YtnenbihkcjgddaaGreatDoorTie
import Derived.Test.YtnenbihkcjgddaaGreatDoorCards
import Derived.Test.YtnenbihkcjgddaaGreatDoorLaw
import Derived.Test.YtnenbihkcjgddaaGreatDoorJi
namespace Go.Proofs.YtnenbihkcjgddaaGreatDoor.policyConds
open Go Go.ChangeShapes Go.WideShapes Go.ChangeAt Go.RowKit
open Go.ChangeMaps (open_string shut_string)
set_option linter.unusedVariables false

theorem own : ownKnob Tryz.prog.godebug = none := by kernel_rfl
theorem laidOut : laidOutB Tryz.prog = true := by kernel_rfl
theorem walk (v0 : Value) (t0 : List Bool) (v1 : Value) (t1 : List Str) (w : World) (w0 : SlT (fun b => w.heap[b]?) v0 t0) (w1 : SlS (fun b => w.heap[b]?) v1 t1) (hsh : w.ShapedOpen Tryz.prog) (hL : laidMetH Tryz.prog Rows.policyCondsRow.laid w) :
    Calls Tryz.prog 5 #[v0, v1] w fun e w' => e = .returned (.bool true) ∧ Below w.heap.size w w' := by
  exact conds_law (fun b => w.heap[b]?) (hasMarks_of hL) (hasM_of hsh) v0 v1 t0 t1 w0 w1 w (fun _ _ h => h)

set_option maxRecDepth 100000 in
theorem laid_met (os : Os) (args : Array Value) : laidMetH Tryz.prog Rows.policyCondsRow.laid ((World.laidAll Tryz.prog os Rows.policyCondsRow.laid).forCall (fun _ _ => 0) ⟨#[], args, []⟩).memory := by
  rw [MakeChecks.laidMetH_plain _ _ _ (by kernel_rfl)]
  exact laidMet_laidAll args (by kernel_rfl) (by kernel_rfl)
set_option maxRecDepth 100000 in
theorem lifted (os : Os) (started : os.Started) (H : Type) (enc : TypeId × Value → H) :
    ReturnsInHanded {} Tryz.checked os 5 .any (fun w args => (Rows.policyCondsSpec.pre enc Tryz.prog Tryz.f5 Rows.policyCondsRow.domain false w args ∧ laidMetH Tryz.prog Rows.policyCondsRow.laid w) ∧ sizedMet enc Tryz.prog Tryz.f5 (OpenSpec.ofChange Rows.policyCondsSpec) false w args) (Rows.policyCondsSpec.post enc Tryz.prog Tryz.f5 false true false false) := by
  refine returnsInHanded_laid (C := Tryz.checked) (X := fun w _ => laidMetH Tryz.prog Rows.policyCondsRow.laid w) (fun _ _ _ hh h => h.of_heap hh) own started (by kernel_rfl) Tryz.func5
    (ChangeSpec.witness_at (enc := enc) (C := Tryz.checked) (os := os) (X := fun w _ => laidMetH Tryz.prog Rows.policyCondsRow.laid w) false (World.laidAll Tryz.prog os Rows.policyCondsRow.laid) #[.slice none 0 0, .slice none 0 0] 8 (World.laidAll_os _ _ _) (by kernel_rfl) (by kernel_rfl) (by kernel_rfl) (by kernel_rfl) (by kernel_rfl) (laid_met os _)) ?_
  intro W base args ds gs before hval0 hW hcnd _ hL hsh
  have hval : ∀ (j : Nat) t v, Tryz.f5.params[j]? = some t → args[j]? = some v → Value.okWide Tryz.prog W .any base t v := hval0
  have hW' := hW
  obtain ⟨p, q, hA0, hV, rfl, hfz, hnd⟩ := hW
  have hA : DataW.TrodAll enc Tryz.prog W 0 (fun _ => true) true Tryz.f5.params.toList args.toList ds p := hA0
  rw [Tryz.params5] at hA hval
  obtain ⟨v0, vs0, d0, ds0, p0, q0, hargs, rfl, rfl, h0, r0⟩ := trodAll_cons hA
  obtain ⟨v1, vs1, d1, ds1, p1, q1, rfl, rfl, rfl, h1, r1⟩ := trodAll_cons r0
  obtain ⟨rfl, rfl, rfl⟩ := trodAll_nil r1
  obtain rfl : args = #[v0, v1] := by cases args; simp_all
  obtain ⟨rfl, rfl⟩ := trodVars_none hV
  have k0 := h0
  have lt0 : ∀ x ∈ p0, x.block < W.heap.size := by obtain ⟨m, hm⟩ := k0; exact DataW.trod_lt m _ _ _ hm
  obtain ⟨sa0, sl0, sc0, rfl⟩ := okWide_slice Tryz.underlying30 (hval 0 30 v0 rfl rfl)
  obtain ⟨t0, w0⟩ : ∃ t, SlT (fun b => W.heap[b]?) (.slice sa0 sl0 sc0) t := by
    obtain ⟨fuel, hf⟩ := h0
    obtain ⟨v, t, e, hv⟩ := open_bools fuel _ _ hf
    obtain rfl : Value.slice sa0 sl0 sc0 = v := by simpa [Value.cells] using e
    exact ⟨t, hv⟩
  have k1 := h1
  have lt1 : ∀ x ∈ p1, x.block < W.heap.size := by obtain ⟨m, hm⟩ := k1; exact DataW.trod_lt m _ _ _ hm
  obtain ⟨sa1, sl1, sc1, rfl⟩ := okWide_slice Tryz.underlying31 (hval 1 31 v1 rfl rfl)
  obtain ⟨t1, w1⟩ : ∃ t, SlS (fun b => W.heap[b]?) (.slice sa1 sl1 sc1) t := by
    obtain ⟨fuel, hf⟩ := h1
    obtain ⟨v, t, e, hv⟩ := open_texts fuel _ _ hf
    obtain rfl : Value.slice sa1 sl1 sc1 = v := by simpa [Value.cells] using e
    exact ⟨t, hv⟩
  clear hA0 hval0
  refine (walk _ t0 _ t1 W w0 w1 hsh hL).mono fun e W' ⟨he, bel⟩ => ?_
  subst he
  exact ⟨_, rfl, _, _, _, [], _, [], hW', trodAll_mk1 (shut_bool Tryz.underlying4 _), (trodAll_cons_mk (Below.trod laidOut (by kernel_rfl) (of_decide_eq_true (by kernel_rfl)) k0 bel lt0) (trodAll_cons_mk (Below.trod laidOut (by kernel_rfl) (of_decide_eq_true (by kernel_rfl)) k1 bel lt1) trodAll_mk0)), rfl, bel.frame _, fun h => by cases h⟩
theorem over : Rows.policyCondsRow.holds Tryz.pinned (OpenSpec.ofChange Rows.policyCondsSpec) :=
  OpenClaim.holds_of_wide 5 Tryz.f5 rfl rfl rfl rfl rfl rfl rfl ⟨rfl, rfl, rfl, rfl, rfl⟩ rfl rfl rfl rfl rfl (by kernel_rfl) Tryz.func5 (by kernel_rfl)
    (of_decide_eq_true (by kernel_rfl)) (by unfold Func.isWrapper; first | (rw [if_pos (by decide +kernel)]; kernel_rfl) | (rw [if_neg (by decide +kernel)]; exact ⟨rfl, rfl⟩))
    (fun os started H enc _ => lifted os started H enc)
theorem proved : Rows.PolicyCondsCardSaid :=
  Claim7.holds_tied_plain_at .later [] [.data] true (true, "57c2d63a6dd31b2796fe82e1203444e4881ebcbcfaaf0251d125cccfb06a8771") false
    over (fun _ h => by cases h) (by kernel_rfl) (fun _ h => by cases h) policyConds_row_tie rfl ⟨rfl, rfl⟩ (by kernel_rfl) rfl
    (fun f fn hf hfn => by
      obtain rfl : f = 5 := Option.some.inj ((show Tryz.prog.funcNamed "chamberlain/chamberlainlaw09.PolicyConds" = some 5 by kernel_rfl).symm.trans hf) |>.symm
      obtain rfl : fn = Tryz.f5 := (Option.some.inj (Tryz.func5.symm.trans hfn)).symm
      exact ⟨by kernel_rfl, fun j t ht => by
        have hm : t ∈ [30, 31] := by
          have := Array.mem_of_getElem? ht
          rw [Tryz.params5] at this
          simpa using this
        have hall : ([30, 31].all fun u => !Tryz.prog.wantsStandIn u) = true := by kernel_rfl
        exact (show Tryz.prog.wantsStandIn t = false by simpa using List.all_eq_true.1 hall t hm)⟩)
    (by kernel_rfl)
#print axioms proved
end Go.Proofs.YtnenbihkcjgddaaGreatDoor.policyConds
