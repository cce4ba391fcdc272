/- The law PrinterPolicies returns true whatever it is given, and what it was given reads behind the call as it read before. Condition: what it reads is of bulk at most 1048576 (the second form). -/
import Derived.Test.YtoelfmmfjebabaaDoorRows
import Derived.WalkKit
import Derived.ProofKit
import Derived.OpenShut
import Derived.ShutString
import Derived.ChangeOld
import Derived.Below
import Derived.Carry
import Derived.Lay
import Derived.MakeChecks
import Derived.SevenTiedAt
import Derived.Stop.Joined
import Derived.JoinedCond
import Derived.Test.YtoelfmmfjebabaaDoorTie
import Derived.Test.YtoelfmmfjebabaaDoorCards
import Derived.Test.YtoelfmmfjebabaaDoorLaw
import Derived.Test.YtoelfmmfjebabaaDoorPoC
namespace Go.Proofs.YtoelfmmfjebabaaDoor.printerPoliciesUpto
open Go Go.ChangeShapes Go.WideShapes Go.ChangeAt Go.RowKit
open Go.ChangeMaps (open_string shut_string)
set_option linter.unusedVariables false

theorem own : ownKnob Tryd.prog.godebug = none := by kernel_rfl
theorem laidOut : laidOutB Tryd.prog = true := by kernel_rfl
theorem walk (v0 : Value) (t0 : List Pol) (w : World) (w0 : RepPU (fun b => w.heap[b]?) v0 t0) (hsh : w.ShapedOpen Tryd.prog) (hL : laidMetH Tryd.prog Rows.printerPoliciesUptoRow.laid w) :
    Calls Tryd.prog 4 #[v0] w fun e w' => e = .returned (.bool true) ∧ Below w.heap.size w w' := by
  exact policies_law (F := fun b => w.heap[b]?) (hasM_of hsh) (hasSigns_of (by kernel_rfl) (by kernel_rfl) hL) w0.1 w0.2 w (fun _ _ h => h)

set_option maxRecDepth 100000 in
theorem lifted (os : Os) (started : os.Started) (H : Type) (enc : TypeId × Value → H) (G : Stop.Interp) :
    ReturnsInHanded {} Tryd.checked os 4 .any (fun w args => ((Rows.OpenSpec.upto Rows.printerPoliciesSpec).pre enc Tryd.prog Tryd.f4 Rows.printerPoliciesUptoRow.domain false w args ∧ laidMetH Tryd.prog Rows.printerPoliciesUptoRow.laid w) ∧ sizedMet enc Tryd.prog Tryd.f4 (Rows.OpenSpec.upto Rows.printerPoliciesSpec) false w args) (((Rows.OpenSpec.upto Rows.printerPoliciesSpec).at G).post enc Tryd.prog Tryd.f4 false true false false) := by
  refine returnsInHanded_upto (C := Tryd.checked) (s := Rows.OpenSpec.upto Rows.printerPoliciesSpec) (k := Rows.uptoSmall) rfl (X := fun w _ => laidMetH Tryd.prog Rows.printerPoliciesUptoRow.laid w) (fun _ _ _ hh h => h.of_heap hh) own started (by kernel_rfl) Tryd.func4
    (upto_witness (enc := enc) (C := Tryd.checked) (os := os) (s := Rows.OpenSpec.upto Rows.printerPoliciesSpec) (k := Rows.uptoSmall) rfl (X := fun w _ => laidMetH Tryd.prog Rows.printerPoliciesUptoRow.laid w) false (W0 os) #[.slice none 0 0] 8 (W0_os os) (by kernel_rfl) (by kernel_rfl) (by kernel_rfl) (by kernel_rfl) (by kernel_rfl) (laid_W0 os _)) ?_
  intro W base args ds gs before hval0 hW hcnd hblk0 hL hsh
  have hval : ∀ (j : Nat) t v, Tryd.f4.params[j]? = some t → args[j]? = some v → Value.okWide Tryd.prog W .any base t v := hval0
  have hW' := hW
  obtain ⟨p, q, hA0, hV, rfl, hfz, hnd⟩ := hW
  have hA : DataW.TrodAll enc Tryd.prog W 0 (fun _ => true) true Tryd.f4.params.toList args.toList ds p := hA0
  rw [Tryd.params4] at hA hval
  obtain ⟨v0, vs0, d0, ds0, p0, q0, hargs, rfl, rfl, h0, r0⟩ := trodAll_cons hA
  obtain ⟨rfl, rfl, rfl⟩ := trodAll_nil r0
  obtain rfl : args = #[v0] := by cases args; simp_all
  obtain ⟨rfl, rfl⟩ := trodVars_none hV
  have hblk := bulk_all hblk0
  have k0 := h0
  have lt0 : ∀ x ∈ p0, x.block < W.heap.size := by obtain ⟨m, hm⟩ := k0; exact DataW.trod_lt m _ _ _ hm
  obtain ⟨sa0, sl0, sc0, rfl⟩ := okWide_slice Tryd.underlying38 (hval 0 38 v0 rfl rfl)
  obtain ⟨t0, w0⟩ : ∃ t, RepPU (fun b => W.heap[b]?) (.slice sa0 sl0 sc0) t := by
    obtain ⟨fuel, hf⟩ := h0
    obtain ⟨v, t, e, hv⟩ := open_pols_u fuel _ _ hf (bulk_at (i := 0) hblk rfl)
    obtain rfl : Value.slice sa0 sl0 sc0 = v := by simpa [Value.cells] using e
    exact ⟨t, hv⟩
  clear hA0 hval0
  refine (walk _ t0 W w0 hsh hL).mono fun e W' ⟨he, bel⟩ => ?_
  subst he
  exact ⟨_, rfl, _, _, _, [], _, [], hW', trodAll_mk1 (shut_bool Tryd.underlying4 _), (trodAll_cons_mk (Below.trod laidOut (by kernel_rfl) (of_decide_eq_true (by kernel_rfl)) k0 bel lt0) trodAll_mk0), rfl, bel.frame _, fun h => by cases h⟩
theorem over : Rows.printerPoliciesUptoRow.holds Tryd.pinned (Rows.OpenSpec.upto Rows.printerPoliciesSpec) :=
  OpenClaim.holds_of_cond 4 Tryd.f4 rfl rfl rfl rfl rfl rfl rfl ⟨rfl, rfl, rfl, rfl, rfl⟩ rfl rfl rfl rfl rfl (by kernel_rfl) Tryd.func4 (by kernel_rfl)
    (of_decide_eq_true (by kernel_rfl)) (by unfold Func.isWrapper; first | (rw [if_pos (by decide +kernel)]; kernel_rfl) | (rw [if_neg (by decide +kernel)]; exact ⟨rfl, rfl⟩))
    (fun os started H enc _ G => lifted os started H enc G)
theorem proved : Rows.PrinterPoliciesUptoCardSaid :=
  Claim7.holds_tied_plain_at .later [] [.data, .mapped, .pinned] true (true, "128871d5e3a927f81d9493286029ec0756fcc80ff07baf53a72bb81c3797a055") false
    over (fun _ h => by cases h) (by kernel_rfl) (fun _ h => by cases h) printerPoliciesUpto_row_tie rfl ⟨rfl, rfl⟩ (by kernel_rfl) rfl
    (fun f fn hf hfn => by
      obtain rfl : f = 4 := Option.some.inj ((show Tryd.prog.funcNamed "chamberlain/chamberlainlaw10.PrinterPolicies" = some 4 by kernel_rfl).symm.trans hf) |>.symm
      obtain rfl : fn = Tryd.f4 := (Option.some.inj (Tryd.func4.symm.trans hfn)).symm
      exact ⟨by kernel_rfl, fun j t ht => by
        have hm : t ∈ [38] := by
          have := Array.mem_of_getElem? ht
          rw [Tryd.params4] at this
          simpa using this
        have hall : ([38].all fun u => !Tryd.prog.wantsStandIn u) = true := by kernel_rfl
        exact (show Tryd.prog.wantsStandIn t = false by simpa using List.all_eq_true.1 hall t hm)⟩)
    (by kernel_rfl)
#print axioms proved
end Go.Proofs.YtoelfmmfjebabaaDoor.printerPoliciesUpto
