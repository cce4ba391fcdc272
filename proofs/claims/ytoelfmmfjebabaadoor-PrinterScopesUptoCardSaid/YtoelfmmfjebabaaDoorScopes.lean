/- The law PrinterScopes returns true whatever it is given, and what it was given reads behind the call as it read before. Condition: what it reads is of bulk at most 1048576 (the second form). -/
import Derived.Test.YtoelfmmfjebabaaDoorRows
import Derived.WalkKit
import Derived.ProofKit
import Derived.OpenShut
import Derived.ShutString
import Derived.ChangeOld
import Derived.Below
import Derived.Carry
import Derived.Lay
import Derived.MakeChecks
import Derived.SevenTiedAt
import Derived.Stop.Joined
import Derived.JoinedCond
import Derived.Test.YtoelfmmfjebabaaDoorTie
import Derived.Test.YtoelfmmfjebabaaDoorCards
import Derived.Test.YtoelfmmfjebabaaDoorLaw
import Derived.Test.YtoelfmmfjebabaaDoorPoC
namespace Go.Proofs.YtoelfmmfjebabaaDoor.printerScopesUpto
open Go Go.ChangeShapes Go.WideShapes Go.ChangeAt Go.RowKit
open Go.ChangeMaps (open_string shut_string)
set_option linter.unusedVariables false

theorem own : ownKnob Tryd.prog.godebug = none := by kernel_rfl
theorem laidOut : laidOutB Tryd.prog = true := by kernel_rfl
theorem walk (c0 : List Value) (t0 : Scp) (c1 : List Value) (t1 : Scp) (c2 : List Value) (t2 : Scp) (a3 : Bool) (a4 : ByteArray) (w : World) (w0 : RepSc (fun b => w.heap[b]?) c0 t0) (w1 : RepSc (fun b => w.heap[b]?) c1 t1) (w2 : RepSc (fun b => w.heap[b]?) c2 t2) (w4 : a4.size ≤ 1048576) (hsum : wtS t0 + wtS t1 + wtS t2 + a4.size + 4 ≤ 1048576) (hsh : w.ShapedOpen Tryd.prog) (hL : laidMetH Tryd.prog Rows.printerScopesUptoRow.laid w) :
    Calls Tryd.prog 5 #[.agg c0.toArray, .agg c1.toArray, .agg c2.toArray, .bool a3, .string a4] w fun e w' => e = .returned (.bool true) ∧ Below w.heap.size w w' := by
  have hlen : a4.data.toList.length = a4.size := Array.length_toList
  exact scopes_law (F := fun b => w.heap[b]?) (hasM_of hsh) (hasSigns_of (by kernel_rfl) (by kernel_rfl) hL) w0 w1 w2 a3 a4.data.toList (by omega) w (fun _ _ h => h)

set_option maxRecDepth 100000 in
theorem lifted (os : Os) (started : os.Started) (H : Type) (enc : TypeId × Value → H) (G : Stop.Interp) :
    ReturnsInHanded {} Tryd.checked os 5 .any (fun w args => ((Rows.OpenSpec.upto Rows.printerScopesSpec).pre enc Tryd.prog Tryd.f5 Rows.printerScopesUptoRow.domain false w args ∧ laidMetH Tryd.prog Rows.printerScopesUptoRow.laid w) ∧ sizedMet enc Tryd.prog Tryd.f5 (Rows.OpenSpec.upto Rows.printerScopesSpec) false w args) (((Rows.OpenSpec.upto Rows.printerScopesSpec).at G).post enc Tryd.prog Tryd.f5 false true false false) := by
  refine returnsInHanded_upto (C := Tryd.checked) (s := Rows.OpenSpec.upto Rows.printerScopesSpec) (k := Rows.uptoSmall) rfl (X := fun w _ => laidMetH Tryd.prog Rows.printerScopesUptoRow.laid w) (fun _ _ _ hh h => h.of_heap hh) own started (by kernel_rfl) Tryd.func5
    (upto_witness (enc := enc) (C := Tryd.checked) (os := os) (s := Rows.OpenSpec.upto Rows.printerScopesSpec) (k := Rows.uptoSmall) rfl (X := fun w _ => laidMetH Tryd.prog Rows.printerScopesUptoRow.laid w) false (W0 os) #[.agg #[.int .i64 0, .string ByteArray.empty, .string ByteArray.empty, .string ByteArray.empty, .bool false, .slice none 0 0], .agg #[.int .i64 0, .string ByteArray.empty, .string ByteArray.empty, .string ByteArray.empty, .bool false, .slice none 0 0], .agg #[.int .i64 0, .string ByteArray.empty, .string ByteArray.empty, .string ByteArray.empty, .bool false, .slice none 0 0], .bool false, .string ByteArray.empty] 8 (W0_os os) (by kernel_rfl) (by kernel_rfl) (by kernel_rfl) (by kernel_rfl) (by kernel_rfl) (laid_W0 os _)) ?_
  intro W base args ds gs before hval0 hW hcnd hblk0 hL hsh
  have hval : ∀ (j : Nat) t v, Tryd.f5.params[j]? = some t → args[j]? = some v → Value.okWide Tryd.prog W .any base t v := hval0
  have hW' := hW
  obtain ⟨p, q, hA0, hV, rfl, hfz, hnd⟩ := hW
  have hA : DataW.TrodAll enc Tryd.prog W 0 (fun _ => true) true Tryd.f5.params.toList args.toList ds p := hA0
  rw [Tryd.params5] at hA hval
  obtain ⟨v0, vs0, d0, ds0, p0, q0, hargs, rfl, rfl, h0, r0⟩ := trodAll_cons hA
  obtain ⟨v1, vs1, d1, ds1, p1, q1, rfl, rfl, rfl, h1, r1⟩ := trodAll_cons r0
  obtain ⟨v2, vs2, d2, ds2, p2, q2, rfl, rfl, rfl, h2, r2⟩ := trodAll_cons r1
  obtain ⟨v3, vs3, d3, ds3, p3, q3, rfl, rfl, rfl, h3, r3⟩ := trodAll_cons r2
  obtain ⟨v4, vs4, d4, ds4, p4, q4, rfl, rfl, rfl, h4, r4⟩ := trodAll_cons r3
  obtain ⟨rfl, rfl, rfl⟩ := trodAll_nil r4
  obtain rfl : args = #[v0, v1, v2, v3, v4] := by cases args; simp_all
  obtain ⟨rfl, rfl⟩ := trodVars_none hV
  have hblk := bulk_all hblk0
  have k0 := h0
  have lt0 : ∀ x ∈ p0, x.block < W.heap.size := by obtain ⟨m, hm⟩ := k0; exact DataW.trod_lt m _ _ _ hm
  obtain ⟨⟨c0⟩, rfl, hsz0⟩ := okWide_struct Tryd.underlying41 (hval 0 41 v0 rfl rfl)
  obtain ⟨t0, w0, z0⟩ : ∃ t, RepSc (fun b => W.heap[b]?) c0 t ∧ wtS t + 1 ≤ Rows.uptoBulk d0 := by obtain ⟨fuel, hf⟩ := h0; exact open_scope_u fuel _ _ hf
  have k1 := h1
  have lt1 : ∀ x ∈ p1, x.block < W.heap.size := by obtain ⟨m, hm⟩ := k1; exact DataW.trod_lt m _ _ _ hm
  obtain ⟨⟨c1⟩, rfl, hsz1⟩ := okWide_struct Tryd.underlying41 (hval 1 41 v1 rfl rfl)
  obtain ⟨t1, w1, z1⟩ : ∃ t, RepSc (fun b => W.heap[b]?) c1 t ∧ wtS t + 1 ≤ Rows.uptoBulk d1 := by obtain ⟨fuel, hf⟩ := h1; exact open_scope_u fuel _ _ hf
  have k2 := h2
  have lt2 : ∀ x ∈ p2, x.block < W.heap.size := by obtain ⟨m, hm⟩ := k2; exact DataW.trod_lt m _ _ _ hm
  obtain ⟨⟨c2⟩, rfl, hsz2⟩ := okWide_struct Tryd.underlying41 (hval 2 41 v2 rfl rfl)
  obtain ⟨t2, w2, z2⟩ : ∃ t, RepSc (fun b => W.heap[b]?) c2 t ∧ wtS t + 1 ≤ Rows.uptoBulk d2 := by obtain ⟨fuel, hf⟩ := h2; exact open_scope_u fuel _ _ hf
  obtain ⟨a3, rfl, rfl, rfl⟩ := open_bool Tryd.underlying4 (hval 3 4 v3 rfl rfl) h3
  obtain ⟨a4, rfl, rfl, rfl, w4⟩ := open_string Tryd.underlying9 (hval 4 9 v4 rfl rfl) h4
  have b4 : a4.size ≤ 1048576 := bulk_string (bulk_at (i := 4) hblk rfl)
  have z4 : a4.size + 1 ≤ Rows.uptoBulk (.lit (.string a4.data.toList) : DataW H) := by have e : a4.data.toList.length = a4.size := Array.length_toList; simp only [Rows.uptoBulk]; omega
  have hsum : wtS t0 + wtS t1 + wtS t2 + a4.size + 4 ≤ 1048576 := by
    have h0 : Rows.uptoBulkAll _ ≤ 1048576 := of_decide_eq_true hblk0
    simp only [List.append_nil, Rows.uptoBulkAll] at h0
    omega
  clear hA0 hval0
  refine (walk c0 t0 c1 t1 c2 t2 a3 a4 W w0 w1 w2 b4 hsum hsh hL).mono fun e W' ⟨he, bel⟩ => ?_
  subst he
  exact ⟨_, rfl, _, _, _, [], _, [], hW', trodAll_mk1 (shut_bool Tryd.underlying4 _), (trodAll_cons_mk (Below.trod laidOut (by kernel_rfl) (of_decide_eq_true (by kernel_rfl)) k0 bel lt0) (trodAll_cons_mk (Below.trod laidOut (by kernel_rfl) (of_decide_eq_true (by kernel_rfl)) k1 bel lt1) (trodAll_cons_mk (Below.trod laidOut (by kernel_rfl) (of_decide_eq_true (by kernel_rfl)) k2 bel lt2) (trodAll_cons_mk (shut_bool Tryd.underlying4 _) (trodAll_cons_mk (shut_string Tryd.underlying9 w4) trodAll_mk0))))), rfl, bel.frame _, fun h => by cases h⟩
theorem over : Rows.printerScopesUptoRow.holds Tryd.pinned (Rows.OpenSpec.upto Rows.printerScopesSpec) :=
  OpenClaim.holds_of_cond 5 Tryd.f5 rfl rfl rfl rfl rfl rfl rfl ⟨rfl, rfl, rfl, rfl, rfl⟩ rfl rfl rfl rfl rfl (by kernel_rfl) Tryd.func5 (by kernel_rfl)
    (of_decide_eq_true (by kernel_rfl)) (by unfold Func.isWrapper; first | (rw [if_pos (by decide +kernel)]; kernel_rfl) | (rw [if_neg (by decide +kernel)]; exact ⟨rfl, rfl⟩))
    (fun os started H enc _ G => lifted os started H enc G)
theorem proved : Rows.PrinterScopesUptoCardSaid :=
  Claim7.holds_tied_plain_at .later [] [.data, .mapped, .pinned] true (true, "128871d5e3a927f81d9493286029ec0756fcc80ff07baf53a72bb81c3797a055") false
    over (fun _ h => by cases h) (by kernel_rfl) (fun _ h => by cases h) printerScopesUpto_row_tie rfl ⟨rfl, rfl⟩ (by kernel_rfl) rfl
    (fun f fn hf hfn => by
      obtain rfl : f = 5 := Option.some.inj ((show Tryd.prog.funcNamed "chamberlain/chamberlainlaw10.PrinterScopes" = some 5 by kernel_rfl).symm.trans hf) |>.symm
      obtain rfl : fn = Tryd.f5 := (Option.some.inj (Tryd.func5.symm.trans hfn)).symm
      exact ⟨by kernel_rfl, fun j t ht => by
        have hm : t ∈ [41, 4, 9] := by
          have := Array.mem_of_getElem? ht
          rw [Tryd.params5] at this
          simpa using this
        have hall : ([41, 4, 9].all fun u => !Tryd.prog.wantsStandIn u) = true := by kernel_rfl
        exact (show Tryd.prog.wantsStandIn t = false by simpa using List.all_eq_true.1 hall t hm)⟩)
    (by kernel_rfl)
#print axioms proved
end Go.Proofs.YtoelfmmfjebabaaDoor.printerScopesUpto
