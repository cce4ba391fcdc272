/- Joined. -/
import Derived.Test.YtkbhinfpndnnfaaDoorJd
import Derived.Test.YtkbhinfpndnnfaaDoorJb
import Derived.Test.YtkbhinfpndnnfaaDoorRows
import Derived.LaidLaws
import Derived.LaidMore
import Derived.MakeChecks
import Derived.OpenShut
import Derived.ChangeArms
import Derived.FnData
import Derived.Handed
import Derived.HandedShaped
set_option linter.unusedSectionVars false
namespace Go.Proofs.YtkbhinfpndnnfaaDoor
open Go Go.Eng
set_option maxHeartbeats 1000000
set_option linter.unusedSimpArgs false
set_option linter.unusedVariables false
set_option maxRecDepth 20000
theorem stepU_pos (s : List UInt8) : 1 ≤ (stepU s).2 := by
 unfold stepU
 split
 ·split <;> simp
 ·simp
theorem unqL_le : ∀ (n : Nat) (s t : List UInt8), unqL n s = some t → t.length ≤ s.length
 | n, [], t, h => by
  cases n <;> (rw [unqL] at h; cases h; simp)
 | 0, c :: r, t, h => by rw [unqL] at h; cases h
 | n + 1, c :: r, t, h => by
  rw [unqL] at h
  split at h
  ·obtain ⟨u, hu, rfl⟩ := Option.map_eq_some_iff.1 h
   have h1 := unqL_le n _ u hu
   have h2 := stepU_pos (c :: r)
   rw [List.length_drop] at h1
   simp only [List.length_cons] at h1 ⊢
   omega
  ·cases h
theorem unquote_le {s t : List UInt8} (h : unquote s = some t) : t.length ≤ s.length := by
 unfold unquote at h
 split at h
 ·cases h
 ·have := unqL_le _ _ _ h
  rw [List.length_drop, List.length_take] at this
  omega
theorem qT_le (s : List UInt8) : (qX s).1.length ≤ s.length := by
 unfold qX
 split
 ·simp
 ·split
  ·simp
  ·rename_i h
   have := unquote_le h
   rw [List.length_take] at this
   simp only
   omega
theorem twos_ok : ∀ m ∈ marksL, m.length ≤ 2 := by decide
theorem markX_le (s : List UInt8) : (markX s).length ≤ 2 := by
 unfold markX
 cases h : marksL.find? fun m => Go.Lib.hasPrefix s m with
 | none => simp
 | some m => exact twos_ok m (List.mem_of_find?_eq_some h)
theorem takeWhile_le' (p : UInt8 → Bool) (s : List UInt8) : (s.takeWhile p).length ≤ s.length := by
 induction s with
 | nil => simp
 | cons c r ih => rw [List.takeWhile_cons]; split <;> simp <;> omega
theorem isLD_124 {c : UInt8} (h : isLD c = true) : c ≠ 124 := by
 rintro rfl; revert h; decide
theorem takeWhile_all' {p : UInt8 → Bool} : ∀ {s : List UInt8} {c : UInt8}, c ∈ s.takeWhile p → p c = true
 | [], c, h => by cases h
 | x :: r, c, h => by
  rw [List.takeWhile_cons] at h
  split at h
  ·rcases List.mem_cons.1 h with rfl | h
   ·assumption
   ·exact takeWhile_all' h
  ·cases h
theorem nameX_124 (s : List UInt8) : ∀ c ∈ nameX s, c ≠ 124 := by
 cases s with
 | nil => intro c h; cases h
 | cons x r =>
  rw [nameX]
  split
  ·rename_i hx
   intro c h
   rcases List.mem_cons.1 h with rfl | h
   ·exact isLD_124 (by unfold isLD; rw [hx]; rfl)
   ·exact isLD_124 (takeWhile_all' h)
  ·intro c h; cases h
theorem readD_i64 (l : List UInt8) : I64 (readD false l).1 := by
 unfold readD
 split
 ·unfold I64; decide
 ·rw [if_neg (by decide)]
  unfold fitR
  split
  ·assumption
  ·exact ⟨by decide, by decide⟩
theorem tok_ok {s : List UInt8} {w : Wd} {m : Nat} (hs : s.length ≤ 65536) (h : tok s = .ok (w, m)) : w.2.1.length ≤ 65536 ∧ I64 w.2.2 ∧ (w.1 = 1 → ∀ c ∈ w.2.1, c ≠ 124) := by
 unfold tok at h
 split at h
 ·cases h
 ·split at h
  ·cases h
  ·injection h with h
   injection h with h _
   subst h
   have h0 : I64 0 := by unfold I64; decide
   unfold oneX
   split
   ·exact ⟨Nat.le_trans (nameX_le s) hs, h0, fun _ => nameX_124 s⟩
   ·split
    ·exact ⟨Nat.le_trans (takeWhile_le' _ s) hs, readD_i64 _, fun h => by simp at h⟩
    ·split
     ·exact ⟨Nat.le_trans (qT_le s) hs, h0, fun h => by simp at h⟩
     ·split
      ·split
       ·exact ⟨by simp, h0, fun h => by simp at h⟩
       ·refine ⟨Nat.le_trans (nameX_le _) ?_, h0, fun h => by simp at h⟩
        rw [List.length_drop]; omega
      ·split
       ·exact ⟨by decide, h0, fun h => by simp at h⟩
       ·split
        ·exact ⟨by simp, h0, fun h => by simp at h⟩
        ·exact ⟨Nat.le_trans (markX_le s) (by decide), h0, fun h => by simp at h⟩
theorem w1_ok : ∀ (n a : Nat) (s : List UInt8) (l : List (Wd × Nat)), s.length ≤ 65536 → w1 n a s = .ok l → l.length ≤ s.length + 1 ∧ ∀ w ∈ l, w.1.2.1.length ≤ 65536 ∧ I64 w.1.2.2 ∧ (w.1.1 = 1 → ∀ c ∈ w.1.2.1, c ≠ 124)
 | 0, _, _, l, _, h => by
  rw [w1] at h; injection h with h; subst h
  exact ⟨by simp, fun w hw => by cases hw⟩
 | n + 1, a, s, l, hs, h => by
  rw [w1] at h
  split at h
  ·injection h with h; subst h
   refine ⟨by simp, fun w hw => ?_⟩
   rw [List.mem_singleton.1 hw]
   exact ⟨by simp, (show I64 0 from ⟨by decide, by decide⟩), fun h => by simp at h⟩
  ·rename_i hne
   split at h
   ·cases h
   ·rename_i w m hk
    split at h
    ·cases h
    ·rename_i l' hl
     injection h with h; subst h
     have h1 := tok_len hk
     have h2 : (s.drop (m + blankN (s.drop m))).length ≤ s.length - 1 := by rw [List.length_drop]; omega
     have hpos : 0 < s.length := List.length_pos_iff.2 hne
     obtain ⟨i1, i2⟩ := w1_ok n _ _ l' (by omega) hl
     refine ⟨by rw [List.length_cons]; omega, fun x hx => ?_⟩
     rcases List.mem_cons.1 hx with rfl | hx
     ·exact tok_ok hs hk
     ·exact i2 x hx
theorem words_ok {s : List UInt8} {l : List (Wd × Nat)} (hs : s.length ≤ 65536) (h : words s = .ok l) : WsOk l := by
 have hd : (s.drop (blankN s)).length ≤ s.length := by rw [List.length_drop]; omega
 obtain ⟨h1, h2⟩ := w1_ok _ _ _ l (Nat.le_trans hd hs) h
 exact ⟨by omega, h2⟩
theorem words_ne' {s : List UInt8} {l : List (Wd × Nat)} (h : words s = .ok l) : l ≠ [] := by
 rintro rfl
 unfold words at h
 rw [w1] at h
 split at h
 ·cases h
 ·split at h
  ·cases h
  ·split at h
   ·cases h
   ·cases h
end Go.Proofs.YtkbhinfpndnnfaaDoor
namespace Go.Proofs.YtkbhinfpndnnfaaDoor
open Go Go.Eng
set_option maxHeartbeats 1000000
set_option linter.unusedSimpArgs false
set_option linter.unusedVariables false
set_option linter.unusedSectionVars false
set_option maxRecDepth 20000
mutual
def depX : Ex' → Nat
 | .mk _ _ _ kids _ => depXL kids + 1
def depXL : List Ex' → Nat
 | [] => 0
 | x :: l => max (depX x) (depXL l)
end
theorem depXL_app : ∀ l m, depXL (l ++ m) = max (depXL l) (depXL m)
 | [], m => by simp [depXL]
 | x :: l, m => by rw [List.cons_append, depXL, depXL, depXL_app, Nat.max_assoc]
theorem dep_two (op : Int) (a b : Ex') : depX (twoX op a b) = max (depX a) (depX b) + 1 := by simp [twoX, depX, depXL]
theorem dep_one (op : Int) (nm : Str) (a : Ex') : depX (oneX' op nm a) = depX a + 1 := by simp [oneX', depX, depXL]
theorem dep_lit (v : LV) : depX (litX v) = 1 := by simp [litX, depX, depXL]
theorem dep_leaf (op : Int) (v : LV) (nm : Str) (ns : List Str) : depX (.mk op v nm [] ns) = 1 := by simp [depX, depXL]
theorem dep_if (op : Int) (v : LV) (nm : Str) (a b c : Ex') : depX (.mk op v nm [a, b, c] []) = max (depX a) (max (depX b) (depX c)) + 1 := by simp [depX, depXL]
theorem dep_its (op : Int) (v : LV) (nm : Str) (ks : List Ex') (a : Ex') (ns : List Str) : depX (.mk op v nm (ks ++ [a]) ns) = max (depXL ks) (depX a) + 1 := by simp [depX, depXL, depXL_app]
def depN : NT → Nat
 | .rows _ x => depX x
 | .mems x => depX x
 | .its _ _ ks => depXL ks + 1
 | _ => 0
def Dp (c : Nat) (s : St) (y : Ex' × St) : Prop := y.2.e = 0 → (depX y.1 : Int) ≤ c + 2 * (y.2.p - s.p)
def GoesDp (g : NT → St → Option (Ex' × St)) : Prop := ∀ nt s y, g nt s = some y → Dp (depN nt) s y
theorem adv_p (s : St) : (adv s).p = s.p + 1 := rfl
section
variable {ws : Ws} {g : NT → St → Option (Ex' × St)} (hf : GoesOn g) (hd : GoesDp g)
include hf hd
theorem dp_choice {s : St} {y : Ex' × St} (h : choiceG ws g s = some y) : Dp 0 s y := by
 unfold choiceG at h
 split at h
 ·obtain ⟨a, h1, h⟩ := bind_some h
  obtain ⟨b, h2, h⟩ := bind_some h
  obtain ⟨c, h3, rfl⟩ := map_some' h
  intro he
  have d3 := hd _ _ _ h3 he
  obtain ⟨e3, p3, -⟩ := hf _ _ _ h3 he
  obtain ⟨e3', p3', -⟩ := Fwd.must e3
  have d2 := hd _ _ _ h2 e3'
  obtain ⟨e2, p2, -⟩ := hf _ _ _ h2 e3'
  obtain ⟨e2', p2', -⟩ := Fwd.must e2
  have d1 := hd _ _ _ h1 e2'
  obtain ⟨e1, p1, -⟩ := hf _ _ _ h1 e2'
  rw [adv_p] at p1 d1
  simp only [dep_if, depN] at *
  omega
 ·exact hd _ _ _ h
theorem dp_rel {s : St} {y : Ex' × St} (h : relG ws g s = some y) : Dp 0 s y := by
 obtain ⟨a, h1, h⟩ := bind_some h
 have two : ∀ b, g (.lev 2) (adv a.2) = some b → b.2.e = 0 → (depX a.1 : Int) + 2 ≤ 2 * (b.2.p - s.p) ∧ (depX b.1 : Int) + 2 ≤ 2 * (b.2.p - s.p) := fun b h2 he => by
  have d2 := hd _ _ _ h2 he
  obtain ⟨e2, p2, -⟩ := hf _ _ _ h2 he
  have d1 := hd _ _ _ h1 e2
  obtain ⟨e1, p1, -⟩ := hf _ _ _ h1 e2
  rw [adv_p] at p2 d2
  simp only [depN] at *
  omega
 have one : ∀ t : St, Fwd 1 (adv a.2) t → t.e = 0 → (depX a.1 : Int) + 1 ≤ 2 * (t.p - s.p) := fun t ht he => by
  obtain ⟨e2, p2, -⟩ := ht he
  have d1 := hd _ _ _ h1 e2
  rw [adv_p] at p2
  simp only [depN] at *
  omega
 iterate 7 (split at h; (obtain ⟨b, h2, rfl⟩ := map_some' h; intro he; have := two b h2 he; simp only [dep_two, dep_one]; omega))
 split at h
 ·simp only [Option.some.injEq] at h; subst h
  intro he
  have := one _ Fwd.take he
  simp only [dep_one]; omega
 split at h
 ·simp only [Option.some.injEq] at h; subst h
  intro he
  have := one _ Fwd.path he
  simp only [dep_one]; omega
 simp only [Option.some.injEq] at h; subst h; exact hd _ _ _ h1
theorem dp_pref {s : St} {y : Ex' × St} (h : prefG ws g s = some y) : Dp 0 s y := by
 have go : ∀ op b, g .unary (adv s) = some b → Dp 0 s (oneX' op [] b.1, b.2) := fun op b h2 he => by
  have d2 := hd _ _ _ h2 he
  rw [adv_p] at d2
  simp only [dep_one, depN] at *
  omega
 unfold prefG at h
 split at h
 ·obtain ⟨b, h2, rfl⟩ := map_some' h; exact go _ b h2
 ·split at h
  ·obtain ⟨b, h2, rfl⟩ := map_some' h; exact go _ b h2
  ·exact hd _ _ _ h
theorem dp_mems {x : Ex'} {s : St} {y : Ex' × St} (h : memsG ws g x s = some y) : Dp (depX x) s y := by
 unfold memsG at h
 split at h
 ·intro he
  have d1 := hd _ _ _ h he
  obtain ⟨e1, p1, -⟩ := hf _ _ _ h he
  obtain ⟨e2, p2, -⟩ := Fwd.must e1
  obtain ⟨e3, p3, -⟩ := Fwd.take e2
  rw [adv_p] at p3
  simp only [dep_one, depN] at *
  omega
 ·split at h
  ·simp only at h
   split at h
   ·intro he
    have d1 := hd _ _ _ h he
    obtain ⟨e1, p1, -⟩ := hf _ _ _ h he
    obtain ⟨e3, p3, -⟩ := Fwd.take e1
    rw [adv_p] at p3
    simp only [dep_one, depN] at *
    omega
   ·split at h
    ·simp only [Option.some.injEq] at h; subst h; intro he; exact absurd he (failS_e (by decide))
    ·obtain ⟨b, h2, h⟩ := bind_some h
     intro he
     have d1 := hd _ _ _ h he
     obtain ⟨e1, p1, -⟩ := hf _ _ _ h he
     obtain ⟨e2, p2, -⟩ := Fwd.must e1
     have d2 := hd _ _ _ h2 e2
     obtain ⟨e3, p3, -⟩ := hf _ _ _ h2 e2
     rw [adv_p] at p3 d2
     obtain ⟨e4, p4, -⟩ := Fwd.take (ws := ws) (s := adv s) (k := 1) e3
     rw [adv_p] at p4
     simp only [dep_two, depN] at *
     omega
  ·simp only [Option.some.injEq] at h; subst h
   intro he
   show (depX x : Int) ≤ depX x + 2 * (s.p - s.p)
   omega
theorem dp_its {op : Int} {ns : List Str} {ks : List Ex'} {s : St} {y : Ex' × St} (h : itsG ws g op ns ks s = some y) : Dp (depXL ks + 1) s y := by
 unfold itsG at h
 obtain ⟨a, h1, h⟩ := bind_some h
 split at h
 ·simp only [Option.some.injEq] at h; subst h
  intro he
  have d1 := hd _ _ _ h1 he
  obtain ⟨e1, p1, -⟩ := hf _ _ _ h1 he
  obtain ⟨e2, p2, -⟩ := Fwd.head e1
  simp only [dep_its, depN, adv_p] at *
  omega
 ·intro he
  have d0 := hd _ _ _ h he
  obtain ⟨e0, p0, -⟩ := hf _ _ _ h he
  obtain ⟨e3, p3, -⟩ := Fwd.must e0
  have d1 := hd _ _ _ h1 e3
  obtain ⟨e1, p1, -⟩ := hf _ _ _ h1 e3
  obtain ⟨e2, p2, -⟩ := Fwd.head e1
  simp only [depN, depXL_app, depXL, Nat.max_zero] at *
  omega
theorem dp_items {op : Int} {s : St} {y : Ex' × St} (h : itemsG ws g op s = some y) : Dp 1 s y := by
 unfold itemsG at h
 split at h
 ·simp only [Option.some.injEq] at h; subst h
  intro he
  simp only [dep_leaf, adv_p]
  omega
 ·have := hd _ _ _ h
  simpa [depN, depXL] using this
theorem dp_prim {s : St} {y : Ex' × St} (h : primG ws g s = some y) : Dp 0 s y := by
 have lf : ∀ (x : Ex'), depX x = 1 → ∀ t, Fwd 1 s t → Dp 0 s (x, t) := fun x hx t ht he => by
  obtain ⟨-, p1, -⟩ := ht he
  simp only [hx] at *
  omega
 have bad : Dp 0 s (nilX, failS ws s 10) := fun he => absurd he (failS_e (by decide))
 unfold primG at h
 split at h
 ·simp only [Option.some.injEq] at h; subst h; exact lf _ (dep_lit _) _ Fwd.adv
 split at h
 ·simp only [Option.some.injEq] at h; subst h; exact lf _ (dep_lit _) _ Fwd.adv
 split at h
 ·split at h
  ·simp only [Option.some.injEq] at h; subst h; exact lf _ (dep_leaf _ _ _ _) _ Fwd.adv
  ·simp only [Option.some.injEq] at h; subst h; exact bad
 split at h
 ·simp only [Option.some.injEq] at h; subst h
  unfold nameG
  split
  ·exact lf _ (dep_lit _) _ Fwd.adv
  ·split
   ·exact lf _ (dep_lit _) _ Fwd.uid
   ·split
    ·exact lf _ (dep_leaf _ _ _ _) _ Fwd.adv
    ·exact bad
 split at h
 ·obtain ⟨b, h2, rfl⟩ := map_some' h
  intro he
  obtain ⟨e1, p1, -⟩ := Fwd.must he
  have d := hd _ _ _ h2 e1
  rw [adv_p] at d
  simp only [depN] at *
  omega
 split at h
 ·intro he
  have d := dp_items hf hd h he
  rw [adv_p] at d
  omega
 split at h
 ·intro he
  have d := dp_items hf hd h he
  rw [adv_p] at d
  omega
 ·simp only [Option.some.injEq] at h; subst h; exact bad
theorem dp_step {nt : NT} {s : St} {y : Ex' × St} (h : stepG ws g nt s = some y) : Dp (depN nt) s y := by
 cases nt with
 | expr =>
  simp only [stepG] at h
  split at h
  ·simp only [Option.some.injEq] at h; subst h; intro he; exact absurd he (failS_e (by decide))
  ·obtain ⟨b, h2, rfl⟩ := map_some' h; exact fun he => (dp_choice hf hd h2 : Dp 0 (inn s) b) he
 | lev k =>
  obtain ⟨a, h1, h⟩ := bind_some h
  intro he
  have d2 := hd _ _ _ h he
  obtain ⟨e2, p2, -⟩ := hf _ _ _ h he
  have d1 := hd _ _ _ h1 e2
  have e0 : depN (lowN k) = 0 := by unfold lowN; split <;> rfl
  simp only [depN, e0] at *
  omega
 | rows k x =>
  simp only [stepG] at h
  split at h
  ·simp only [Option.some.injEq] at h; subst h
   intro he
   show (depX x : Int) ≤ depX x + 2 * (s.p - s.p)
   omega
  ·obtain ⟨a, h1, h⟩ := bind_some h
   intro he
   have d2 := hd _ _ _ h he
   obtain ⟨e2, p2, -⟩ := hf _ _ _ h he
   have d1 := hd _ _ _ h1 e2
   obtain ⟨e1, p1, -⟩ := hf _ _ _ h1 e2
   have e0 : depN (lowN k) = 0 := by unfold lowN; split <;> rfl
   rw [adv_p] at p1 d1
   simp only [depN, e0, dep_two] at *
   omega
 | rel => exact dp_rel hf hd h
 | unary =>
  simp only [stepG] at h
  split at h
  ·simp only [Option.some.injEq] at h; subst h; intro he; exact absurd he (failS_e (by decide))
  ·obtain ⟨b, h2, rfl⟩ := map_some' h; exact fun he => (dp_pref hf hd h2 : Dp 0 (inn s) b) he
 | member =>
  obtain ⟨a, h1, h⟩ := bind_some h
  intro he
  have d2 := hd _ _ _ h he
  obtain ⟨e2, p2, -⟩ := hf _ _ _ h he
  have d1 := hd _ _ _ h1 e2
  simp only [depN] at *
  omega
 | mems x => exact dp_mems hf hd h
 | prim => exact dp_prim hf hd h
 | its op ns ks => exact dp_its hf hd h
end
theorem G_dp (ws : Ws) : ∀ n, GoesDp (G ws n)
 | 0 => fun _ _ _ h => by obtain ⟨h0, rfl⟩ := G_zero h; exact fun he => absurd he h0
 | n + 1 => fun nt s y h => by
  rw [G_succ] at h
  split at h
  ·exact dp_step (G_goes ws n) (G_dp ws n) h
  ·rename_i h0
   simp only [Option.some.injEq] at h; subst h; exact fun he => absurd he h0
end Go.Proofs.YtkbhinfpndnnfaaDoor
namespace Go.Proofs.YtkbhinfpndnnfaaDoor
open Go Go.Eng
set_option maxHeartbeats 1000000
set_option linter.unusedSimpArgs false
set_option linter.unusedVariables false
set_option maxRecDepth 20000
theorem take_snoc {α : Type} {l : List α} {i : Nat} {x : α} (h : l[i]? = some x) : l.take (i + 1) = l.take i ++ [x] := by
 rw [List.take_add_one, h]; rfl
theorem getX {l : List Ex'} {i : Nat} (h : i < l.length) : l[i]? = some (l.getD i nilX) := getDs nilX h
theorem depXL_snoc {l : List Ex'} {i : Nat} {x : Ex'} (h : l[i]? = some x) : depXL (l.take (i + 1)) = max (depXL (l.take i)) (depX x) := by
 rw [take_snoc h, depXL_app]; simp [depXL]
theorem depXL_mem {l : List Ex'} {i : Nat} {x : Ex'} (h : l[i]? = some x) : depX x ≤ depXL l := by
 have e : depXL l = max (depXL (l.take (i + 1))) (depXL (l.drop (i + 1))) := by rw [← depXL_app, List.take_append_drop]
 rw [e, depXL_snoc h]; omega
theorem depXL_take {l : List Ex'} (i : Nat) : depXL (l.take i) ≤ depXL l := by
 have e : depXL l = max (depXL (l.take i)) (depXL (l.drop i)) := by rw [← depXL_app, List.take_append_drop]
 omega
theorem rdep_pure (F : Base) {cs : List Value} {e : Ex'} (h : RepX F cs e) : depX e ≤ 1000000000 → PureV Tryd.prog F 8 #[.agg cs.toArray] (.int .i64 (depX e)) := by
 induction h with
 | mk op v u1 u2 nm a1 c1 kids g1 vn names hu hop hk hn hl1 hc1 h1 r1 hN i1 =>
  intro hw
  obtain ⟨an, cn, rfl, hcn, -⟩ := hN
  rw [depX] at hw
  refine pureV_of_svc mixed Tryd.func8 low8 (Nat.le_of_ble_eq_true rfl) (fun w0 => ?_)
  unfold xcells
  simp (disch := first | assumption | exact Ne.symm (by assumption) | omega) only [fu8, ↓ZD, ZW, simprocAttr]
  refine NewB.of fun b1 hb1 hF1 => ?_
  rw [depX]
  simp (disch := first | assumption | exact Ne.symm (by assumption) | omega) only [hF1, ↓ZD, ZW, simprocAttr]
  refine LoopL.inv (α := Nat) (fun i => i ≤ kids.length)
   (fun i => [(1, some (.pointer (some ⟨b1, 0, none⟩))), (3, some (.int .i64 (depXL (kids.take i)))), (4, some (.int .i64 i))])
   (fun i => [(b1, .cells (xcells op v u1 u2 nm (.slice a1 kids.length c1) (.slice an names.length cn)).toArray 30 (0, 0))])
   (fun i => kids.length - i) 0 (Nat.zero_le _) ?_ ?_ ?_
  ·simp only [Le_nil, Le_cons, List.take_zero, depXL]
   simp (disch := first | assumption | exact Ne.symm (by assumption) | omega) only [↓ZD, ZW, simprocAttr]
  ·simp only [HLe_nil, HLe_cons, xcells]
   simp (disch := first | assumption | exact Ne.symm (by assumption) | omega) only [↓ZD, ZW, simprocAttr]
  ·rintro i hi
   have hdt := depXL_take (l := kids) i
   by_cases hlt : i < kids.length
   ·have hd : decide ((i : Int) < (kids.length : Int)) = true := by simp; omega
    have gx := getX hlt
    have hm2 := depXL_mem gx
    have hc := i1 i _ gx (by omega)
    obtain ⟨q1, q2, q3, q4, q5, q6, q7, q8, q9, q10, q11, q12, q13, q14, q15, q16, q17, q18, q19, q20, e1⟩ := (r1 i _ gx).form
    obtain ⟨ba, oa, rfl, hla⟩ := (h1 i _ gx).ldn
    rw [e1] at hc hla
    have hs := depXL_snoc gx
    unfold xcells
    simp (disch := first | assumption | exact Ne.symm (by assumption) | omega) only [hF1, hd, ↓ZD, ZW, simprocAttr]
    refine conj.of (by omega) ?_
    simp (disch := first | assumption | exact Ne.symm (by assumption) | omega) only [hF1, hd, Int.toNat_natCast, ↓hla, ↓ZD, ZW, simprocAttr]
    refine CallE.pure hc ?_
    simp (disch := first | assumption | exact Ne.symm (by assumption) | omega) only [hF1, hd, ↓ZD, ZW, simprocAttr]
    refine ⟨fun hb => ?_, fun hb => ?_⟩
    all_goals
     refine invK.on (i + 1) (by omega) (by omega) ?_ ?_
     ·simp only [decide_eq_true_eq, decide_eq_false_iff_not] at hb
      simp only [Le_nil, Le_cons, hs]
      simp (disch := first | assumption | exact Ne.symm (by assumption) | omega) only [↓ZD, ZW, simprocAttr]
      first | (rw [Nat.max_eq_right (by omega)]; exact ⟨rfl, rfl⟩) | (rw [Nat.max_eq_left (by omega)]; exact ⟨rfl, rfl⟩)
     ·simp only [HLe_nil, HLe_cons, xcells]
      simp (disch := first | assumption | exact Ne.symm (by assumption) | omega) only [↓ZD, ZW, simprocAttr]
   ·have hd : decide ((kids.length : Int) < (kids.length : Int)) = false := by simp
    obtain rfl : i = kids.length := by omega
    rw [List.take_length]
    unfold xcells
    simp (disch := first | assumption | exact Ne.symm (by assumption) | omega) only [hF1, hd, ↓ZD, ZW, simprocAttr]
    rfl
theorem dep_pure (F : Base) {cs : List Value} {e : Ex'} (h : RepX F cs e) : depX e ≤ 1000000000 → PureV Tryd.prog F 7 #[.agg cs.toArray] (.int .i64 (depX e)) := by
 induction h with
 | mk op v u1 u2 nm a1 c1 kids g1 vn names hu hop hk hn hl1 hc1 h1 r1 hN i1 =>
  intro hw
  obtain ⟨an, cn, rfl, hcn, -⟩ := hN
  rw [depX] at hw
  refine pureV_of_svc mixed Tryd.func7 low7 (Nat.le_of_ble_eq_true rfl) (fun w0 => ?_)
  unfold xcells
  simp (disch := first | assumption | exact Ne.symm (by assumption) | omega) only [fu7, ↓ZD, ZW, simprocAttr]
  refine NewB.of fun b1 hb1 hF1 => ?_
  rw [depX]
  simp (disch := first | assumption | exact Ne.symm (by assumption) | omega) only [hF1, ↓ZD, ZW, simprocAttr]
  refine LoopL.inv (α := Nat) (fun i => i ≤ kids.length)
   (fun i => [(1, some (.pointer (some ⟨b1, 0, none⟩))), (3, some (.int .i64 (depXL (kids.take i)))), (7, some (.slice a1 kids.length c1)), (8, some (.int .i64 kids.length)), (9, some (.int .i64 i))])
   (fun i => []) (fun i => kids.length - i) 0 (Nat.zero_le _) ?_ ?_ ?_
  ·simp only [Le_nil, Le_cons, List.take_zero, depXL]
   simp (disch := first | assumption | exact Ne.symm (by assumption) | omega) only [↓ZD, ZW, simprocAttr]
   first | done | rfl
  ·trivial
  ·rintro i hi
   have hdt := depXL_take (l := kids) i
   by_cases hlt : i < kids.length
   ·have hd : decide ((i : Int) < (kids.length : Int)) = true := by simp; omega
    have gx := getX hlt
    have hm2 := depXL_mem gx
    have hc := i1 i _ gx (by omega)
    obtain ⟨q1, q2, q3, q4, q5, q6, q7, q8, q9, q10, q11, q12, q13, q14, q15, q16, q17, q18, q19, q20, e1⟩ := (r1 i _ gx).form
    obtain ⟨ba, oa, rfl, hla⟩ := (h1 i _ gx).ldn
    rw [e1] at hc hla
    have hs := depXL_snoc gx
    simp (disch := first | assumption | exact Ne.symm (by assumption) | omega) only [hF1, hd, ↓ZD, ZW, simprocAttr]
    refine conj.of (by omega) ?_
    simp (disch := first | assumption | exact Ne.symm (by assumption) | omega) only [hF1, hd, Int.toNat_natCast, ↓hla, ↓ZD, ZW, simprocAttr]
    refine NewB.of fun b2 hb2 hF2 => ?_
    simp (disch := first | assumption | exact Ne.symm (by assumption) | omega) only [hF2, ↓ZD, ZW, simprocAttr]
    refine CallE.pure hc ?_
    simp (disch := first | assumption | exact Ne.symm (by assumption) | omega) only [hF2, ↓ZD, ZW, simprocAttr]
    refine invK.on (i + 1) (by omega) (by omega) ?_ trivial
    simp only [Le_nil, Le_cons, hs]
    simp (disch := first | assumption | exact Ne.symm (by assumption) | omega) only [↓ZD, ZW, simprocAttr]
    refine ⟨?_, rfl⟩
    congr 2
    split <;> omega
   ·have hd : decide ((kids.length : Int) < (kids.length : Int)) = false := by simp
    obtain rfl : i = kids.length := by omega
    rw [List.take_length]
    simp (disch := first | assumption | exact Ne.symm (by assumption) | omega) only [hF1, hd, ↓ZD, ZW, simprocAttr]
    rfl
end Go.Proofs.YtkbhinfpndnnfaaDoor
namespace Go.Proofs.YtkbhinfpndnnfaaDoor
open Go Go.Eng
set_option maxHeartbeats 1000000
set_option linter.unusedSimpArgs false
set_option linter.unusedVariables false
set_option linter.unusedSectionVars false
set_option maxRecDepth 20000
def WsEnd (ws : Ws) : Prop := ∀ i : Nat, i < ws.length → (ws.getD i ((0, [], 0), 0)).1.1 ≠ 0 → i + 1 < ws.length
def InS (ws : Ws) (s : St) : Prop := 0 ≤ s.p ∧ s.p < ws.length
def Inn (ws : Ws) (s t : St) : Prop := t.e = 0 → s.e = 0 ∧ (InS ws s → InS ws t)
theorem Inn.refl {ws : Ws} {s : St} : Inn ws s s := fun h => ⟨h, id⟩
theorem Inn.trans {ws : Ws} {s t u : St} (h1 : Inn ws s t) (h2 : Inn ws t u) : Inn ws s u := fun h => by
 obtain ⟨a, b⟩ := h2 h
 obtain ⟨c, d⟩ := h1 a
 exact ⟨c, fun x => b (d x)⟩
theorem Inn.fail {ws : Ws} {s : St} {e : Int} (he : e ≠ 0) : Inn ws s (failS ws s e) := fun h => absurd h (failS_e he)
section
variable {ws : Ws} (hE : WsEnd ws)
include hE
theorem in_next {s : St} (h : InS ws s) (hk : wk ws s ≠ 0) : InS ws (adv s) := by
 obtain ⟨h1, h2⟩ := h
 obtain ⟨i, hi⟩ : ∃ i : Nat, s.p = i := ⟨s.p.toNat, by omega⟩
 have hlt : i < ws.length := by omega
 unfold wk at hk
 rw [hi, wdAt_in hlt] at hk
 have := hE i hlt (by omega)
 exact ⟨by show 0 ≤ s.p + 1; omega, by show s.p + 1 < ws.length; omega⟩
theorem Inn.adv {s : St} (hk : wk ws s ≠ 0) : Inn ws s (adv s) := fun h => ⟨h, fun x => in_next hE x hk⟩
theorem is_wk {s : St} {t : Str} (h : isS ws s t = true) : wk ws s ≠ 0 := by
 unfold isS at h
 simp only [Bool.and_eq_true, Bool.or_eq_true, beq_iff_eq] at h
 omega
theorem Inn.is {s : St} {t : Str} (h : isS ws s t = true) : Inn ws s (Go.Proofs.YtkbhinfpndnnfaaDoor.adv s) := Inn.adv hE (is_wk hE h)
theorem Inn.must {s : St} {t : Str} : Inn ws s (mustS ws s t) := by
 unfold mustS; split
 ·rename_i h; exact Inn.is hE h
 ·exact Inn.fail (by decide)
theorem Inn.take {s : St} {k : Int} (hk : k ≠ 0) : Inn ws s (takeS ws s k).2 := by
 unfold takeS; split
 ·rename_i h; exact Inn.adv hE (by rw [h.2]; exact hk)
 ·exact Inn.fail (by decide)
theorem pathL_in : ∀ (n j : Nat), ws.length - j ≤ n → j < ws.length → j + (pathL (ws.drop j)).2 < ws.length
 | 0, j, hn, hj => by omega
 | n + 1, j, hn, hj => by
  rw [List.drop_eq_getElem_cons hj]
  by_cases h2 : j + 1 < ws.length
  ·rw [List.drop_eq_getElem_cons h2, pathL]
   split
   ·rename_i hm
    rw [Bool.and_eq_true, beq_iff_eq] at hm
    have h3 := hE (j + 1) h2 (by rw [List.getD_eq_getElem?_getD, List.getElem?_eq_getElem h2]; show (ws[j + 1]).1.1 ≠ 0; omega)
    have := pathL_in n (j + 1 + 1) (by omega) (by omega)
    simp only
    omega
   ·exact hj
  ·rw [List.drop_eq_nil_of_le (by omega)]
   exact hj
theorem Inn.path {s : St} : Inn ws s (pathS ws s).2 := by
 unfold pathS pathT
 have h1 : Inn ws s (if wtx ws s ∈ ownL then failS ws s 10 else s) := by split; exact Inn.fail (by decide); exact Inn.refl
 generalize (if wtx ws s ∈ ownL then failS ws s 10 else s) = u at *
 have h2 := h1.trans (Inn.take hE (k := 1) (by decide))
 split
 ·intro h
  obtain ⟨a, b⟩ := h2 ‹_›
  refine ⟨a, fun x => ?_⟩
  obtain ⟨c, d⟩ := b x
  have := pathL_in hE (ws.length - (takeS ws u 1).2.p.toNat) (takeS ws u 1).2.p.toNat (Nat.le_refl _) (by omega)
  exact ⟨by simp only; omega, by simp only; omega⟩
 ·exact h2
theorem Inn.uid {s : St} : Inn ws s (uidS ws s).2 := by
 unfold uidS
 exact ((Inn.path hE).trans (Inn.must hE)).trans (Inn.take hE (by decide))
theorem Inn.head {op : Int} {ns : List Str} {s : St} : Inn ws s (headS ws op ns s).2 := by
 unfold headS; split
 ·exact (Inn.take hE (by split <;> decide)).trans (Inn.must hE)
 ·exact Inn.refl
theorem Inn.name {s : St} (hk : wk ws s = 1) : Inn ws s (nameG ws s).2 := by
 have ha : Inn ws s (Go.Proofs.YtkbhinfpndnnfaaDoor.adv s) := Inn.adv hE (by rw [hk]; decide)
 unfold nameG
 split
 ·exact ha
 ·split
  ·exact Inn.uid hE
  ·split
   ·exact ha
   ·exact Inn.fail (by decide)
end
def GoesI (ws : Ws) (g : NT → St → Option (Ex' × St)) : Prop := ∀ nt s y, g nt s = some y → Inn ws s y.2
section
variable {ws : Ws} {g : NT → St → Option (Ex' × St)} (hE : WsEnd ws) (hg : GoesI ws g)
include hE hg
theorem gi_choice {s : St} {y : Ex' × St} (h : choiceG ws g s = some y) : Inn ws s y.2 := by
 unfold choiceG at h
 split at h
 ·rename_i hi
  obtain ⟨a, h1, h⟩ := bind_some h
  obtain ⟨b, h2, h⟩ := bind_some h
  obtain ⟨c, h3, rfl⟩ := map_some' h
  exact (((((Inn.is hE hi).trans (hg _ _ _ h1)).trans (Inn.must hE)).trans (hg _ _ _ h2)).trans (Inn.must hE)).trans (hg _ _ c h3)
 ·exact hg _ _ _ h
theorem gi_rel {s : St} {y : Ex' × St} (h : relG ws g s = some y) : Inn ws s y.2 := by
 obtain ⟨a, h1, h⟩ := bind_some h
 have h0 := hg _ _ _ h1
 iterate 7 (split at h; (rename_i hi; obtain ⟨b, h2, rfl⟩ := map_some' h; exact (h0.trans (Inn.is hE hi)).trans (hg _ _ b h2)))
 split at h
 ·rename_i hi; simp only [Option.some.injEq] at h; subst h; exact (h0.trans (Inn.is hE hi)).trans (Inn.take hE (by decide))
 split at h
 ·rename_i hi; simp only [Option.some.injEq] at h; subst h; exact (h0.trans (Inn.is hE hi)).trans (Inn.path hE)
 simp only [Option.some.injEq] at h; subst h; exact h0
theorem gi_pref {s : St} {y : Ex' × St} (h : prefG ws g s = some y) : Inn ws s y.2 := by
 unfold prefG at h
 split at h
 ·rename_i hi; obtain ⟨b, h2, rfl⟩ := map_some' h; exact (Inn.is hE hi).trans (hg _ _ b h2)
 ·split at h
  ·rename_i hi; obtain ⟨b, h2, rfl⟩ := map_some' h; exact (Inn.is hE hi).trans (hg _ _ b h2)
  ·exact hg _ _ _ h
theorem gi_mems {x : Ex'} {s : St} {y : Ex' × St} (h : memsG ws g x s = some y) : Inn ws s y.2 := by
 unfold memsG at h
 split at h
 ·rename_i hi; exact (((Inn.is hE hi).trans (Inn.take hE (by decide))).trans (Inn.must hE)).trans (hg _ _ _ h)
 ·split at h
  ·rename_i hi
   simp only at h
   have h0 := (Inn.is hE hi).trans (Inn.take hE (k := 1) (by decide))
   split at h
   ·exact h0.trans (hg _ _ _ h)
   ·rename_i hj
    split at h
    ·simp only [Option.some.injEq] at h; subst h; exact h0.trans (Inn.fail (by decide))
    ·obtain ⟨b, h2, h⟩ := bind_some h
     exact (((h0.trans (Inn.is hE (by simpa using hj))).trans (hg _ _ _ h2)).trans (Inn.must hE)).trans (hg _ _ _ h)
  ·simp only [Option.some.injEq] at h; subst h; exact Inn.refl
theorem gi_its {op : Int} {ns : List Str} {ks : List Ex'} {s : St} {y : Ex' × St} (h : itsG ws g op ns ks s = some y) : Inn ws s y.2 := by
 unfold itsG at h
 obtain ⟨a, h1, h⟩ := bind_some h
 have h0 := (Inn.head hE).trans (hg _ _ _ h1)
 split at h
 ·rename_i hi; simp only [Option.some.injEq] at h; subst h; exact h0.trans (Inn.is hE hi)
 ·exact (h0.trans (Inn.must hE)).trans (hg _ _ _ h)
theorem gi_items {op : Int} {s : St} {y : Ex' × St} (h : itemsG ws g op s = some y) : Inn ws s y.2 := by
 unfold itemsG at h
 split at h
 ·rename_i hi; simp only [Option.some.injEq] at h; subst h; exact Inn.is hE hi
 ·exact hg _ _ _ h
theorem gi_prim {s : St} {y : Ex' × St} (h : primG ws g s = some y) : Inn ws s y.2 := by
 unfold primG at h
 split at h
 ·rename_i hk; simp only [Option.some.injEq] at h; subst h; exact Inn.adv hE (by rw [hk]; decide)
 split at h
 ·rename_i hk; simp only [Option.some.injEq] at h; subst h; exact Inn.adv hE (by rw [hk]; decide)
 split at h
 ·rename_i hk
  split at h
  ·simp only [Option.some.injEq] at h; subst h; exact Inn.adv hE (by rw [hk]; decide)
  ·simp only [Option.some.injEq] at h; subst h; exact Inn.fail (by decide)
 split at h
 ·rename_i hk; simp only [Option.some.injEq] at h; subst h; exact Inn.name hE hk
 split at h
 ·rename_i hi; obtain ⟨b, h2, rfl⟩ := map_some' h; exact ((Inn.is hE hi).trans (hg _ _ b h2)).trans (Inn.must hE)
 split at h
 ·rename_i hi; exact (Inn.is hE hi).trans (gi_items hE hg h)
 split at h
 ·rename_i hi; exact (Inn.is hE hi).trans (gi_items hE hg h)
 ·simp only [Option.some.injEq] at h; subst h; exact Inn.fail (by decide)
theorem gi_step {nt : NT} {s : St} {y : Ex' × St} (h : stepG ws g nt s = some y) : Inn ws s y.2 := by
 cases nt with
 | expr =>
  simp only [stepG] at h
  split at h
  ·simp only [Option.some.injEq] at h; subst h; exact Inn.fail (by decide)
  ·obtain ⟨b, h2, rfl⟩ := map_some' h; exact (gi_choice hE hg h2 : Inn ws (inn s) b.2)
 | lev k =>
  obtain ⟨a, h1, h⟩ := bind_some h
  exact (hg _ _ _ h1).trans (hg _ _ _ h)
 | rows k x =>
  simp only [stepG] at h
  split at h
  ·simp only [Option.some.injEq] at h; subst h; exact Inn.refl
  ·rename_i ho
   have hi : ∃ t, isS ws s t = true := by
    match k with
    | 0 => simp only [opAt] at ho; exact ⟨_, by by_cases h : isS ws s [124, 124] = true; exact h; exact absurd (if_neg h) ho⟩
    | 1 => simp only [opAt] at ho; exact ⟨_, by by_cases h : isS ws s [38, 38] = true; exact h; exact absurd (if_neg h) ho⟩
    | 2 =>
     simp only [opAt] at ho
     by_cases h : isS ws s [43] = true
     ·exact ⟨_, h⟩
     ·rw [if_neg h] at ho
      exact ⟨_, by by_cases h : isS ws s [45] = true; exact h; exact absurd (if_neg h) ho⟩
    | k + 3 => simp only [opAt] at ho; exact ⟨_, by by_cases h : isS ws s [42] = true; exact h; exact absurd (if_neg h) ho⟩
   obtain ⟨t, hi⟩ := hi
   obtain ⟨a, h1, h⟩ := bind_some h
   exact ((Inn.is hE hi).trans (hg _ _ _ h1)).trans (hg _ _ _ h)
 | rel => exact gi_rel hE hg h
 | unary =>
  simp only [stepG] at h
  split at h
  ·simp only [Option.some.injEq] at h; subst h; exact Inn.fail (by decide)
  ·obtain ⟨b, h2, rfl⟩ := map_some' h; exact (gi_pref hE hg h2 : Inn ws (inn s) b.2)
 | member =>
  obtain ⟨a, h1, h⟩ := bind_some h
  exact (hg _ _ _ h1).trans (hg _ _ _ h)
 | mems x => exact gi_mems hE hg h
 | prim => exact gi_prim hE hg h
 | its op ns ks => exact gi_its hE hg h
end
theorem G_in {ws : Ws} (hE : WsEnd ws) : ∀ n, GoesI ws (G ws n)
 | 0 => fun _ _ _ h => by obtain ⟨_, rfl⟩ := G_zero h; exact Inn.refl
 | n + 1 => fun nt s y h => by
  rw [G_succ] at h
  split at h
  ·exact gi_step hE (G_in hE n) h
  ·simp only [Option.some.injEq] at h; subst h; exact Inn.refl
theorem w1_end : ∀ (n a : Nat) (s : List UInt8) (l : List (Wd × Nat)), s.length < n → w1 n a s = .ok l → l ≠ [] ∧ WsEnd l
 | 0, _, s, l, hn, h => by omega
 | n + 1, a, s, l, hn, h => by
  rw [w1] at h
  split at h
  ·injection h with h; subst h
   exact ⟨by simp, fun i hi hk => by
    obtain rfl : i = 0 := by simpa using hi
    simp at hk⟩
  ·rename_i hne
   split at h
   ·cases h
   ·rename_i w m hk
    split at h
    ·cases h
    ·rename_i l' hl
     injection h with h; subst h
     have h1 := tok_len hk
     have hpos : 0 < s.length := List.length_pos_iff.2 hne
     have h2 : (s.drop (m + blankN (s.drop m))).length < n := by rw [List.length_drop]; omega
     obtain ⟨i1, i2⟩ := w1_end n _ _ l' h2 hl
     have hl' := List.length_pos_iff.2 i1
     refine ⟨by simp, fun i hi hk => ?_⟩
     cases i with
     | zero => rw [List.length_cons]; omega
     | succ i =>
      rw [List.length_cons] at hi ⊢
      have := i2 i (by omega) (by simpa using hk)
      omega
theorem words_end {s : List UInt8} {l : List (Wd × Nat)} (h : words s = .ok l) : WsEnd l :=
 (w1_end _ _ _ l (by rw [List.length_drop]; omega) h).2
theorem read_in {ws : Ws} (hE : WsEnd ws) {i : Int} (hi : 0 ≤ i ∧ i < ws.length) (he : (readS ws i).2.2.1 = 0) : 0 ≤ (readS ws i).2.1 ∧ (readS ws i).2.1 < ws.length ∧ (depX (readS ws i).1 : Int) ≤ 2 * ws.length := by
 obtain ⟨n, hn⟩ := runG_ex ws .expr (st0 i)
 unfold readS at *
 split at he
 ·rename_i h0
  rw [if_pos h0]
  have h1 := (G_in hE n _ _ _ hn h0).2 hi
  have h2 := G_dp ws n _ _ _ hn h0
  have e0 : depN .expr = 0 := rfl
  have e1 : (st0 i).p = i := rfl
  rw [e0, e1] at h2
  obtain ⟨a, b⟩ := h1
  exact ⟨a, b, by simp only at h2 ⊢; omega⟩
 ·exact absurd he ‹_›
end Go.Proofs.YtkbhinfpndnnfaaDoor
namespace Go.Proofs.YtkbhinfpndnnfaaDoor
open Go Go.Eng
set_option maxHeartbeats 1000000
set_option linter.unusedSimpArgs false
set_option linter.unusedVariables false
set_option maxRecDepth 20000
end Go.Proofs.YtkbhinfpndnnfaaDoor
namespace Go.Proofs.YtkbhinfpndnnfaaDoor
open Go Go.Eng
set_option maxHeartbeats 1000000
set_option linter.unusedSimpArgs false
set_option linter.unusedVariables false
set_option maxRecDepth 20000
def parseL (l : Ws) (R : Ex' × Int × Int × Int) : Ex' × Int × Int :=
 if R.2.2.1 ≠ 0 then (nilX, R.2.2.1, R.2.2.2) else if ((wdAt l R.2.1).1.1 : Int) ≠ 0 then (nilX, 10, (wdAt l R.2.1).2) else if 50 < depX R.1 then (nilX, 11, 0) else (R.1, 0, 0)
def parseS (s : Str) : Ex' × Int × Int := if 65536 < s.length then (nilX, 12, 0) else match words s with
 | .error y => (nilX, y.1, y.2)
 | .ok l => parseL l (readS l 0)
def ParseP (F : Base) (R : Ex' × Int × Int) (r : Value) (H' : Hp) : Prop := ∃ cs, r = .tuple #[.agg cs.toArray, .int .i64 R.2.1, .int .i64 R.2.2] ∧ Ok12 cs ∧ RepP (rdObj F H') cs R.1
theorem tok_err' {s : List UInt8} {e : Int} (h : tok s = .error e) : e ≠ 0 := by
 unfold tok at h
 split at h
 ·injection h with h; subst h; assumption
 ·split at h
  ·injection h with h; subst h; decide
  ·cases h
theorem w1_err : ∀ (n a : Nat) (s : List UInt8) (y : Int × Nat), w1 n a s = .error y → y.1 ≠ 0
 | 0, _, _, y, h => by rw [w1] at h; cases h
 | n + 1, a, s, y, h => by
  rw [w1] at h
  split at h
  ·cases h
  ·split at h
   ·rename_i hk
    injection h with h; subst h
    exact tok_err' hk
   ·split at h
    ·rename_i hw
     injection h with h; subst h
     exact w1_err n _ _ _ hw
    ·cases h
theorem cellsW_nil {l : Ws} (h : cellsW l = []) : l = [] := by
 have := cellsW_len l
 rw [h] at this
 exact List.eq_nil_of_length_eq_zero (by simp only [List.length_nil] at this; omega)
theorem parse_does (F : Base) (hg : HasMarks F) (hMx : HasMx F) (s : Str) (hs : s.length ≤ 9223372036854775807) : Does Tryd.prog F 9 #[.string (bs s)] [] (ParseP F (parseS s)) := by
 refine Does.shr (K := fun r H' => ∃ cs Hx, r = .tuple #[.agg cs.toArray, .int .i64 (parseS s).2.1, .int .i64 (parseS s).2.2] ∧ Ok12 cs ∧ RepP (rdObj F Hx) cs (parseS s).1 ∧ ∀ e ∈ Hx, e ∈ H') ?_ fun r H' ⟨cs, Hx, h1, h2, h3, h4⟩ => ⟨Hx, h4, cs, h1, h2, h3⟩
 refine does_of_svc (args := [.string (bs s)]) mixed Tryd.func9 low9 (Nat.le_of_ble_eq_true rfl) (fun w0 hw0 => ?_)
 simp (disch := first | assumption | exact Ne.symm (by assumption) | omega) only [fu9, ↓ZD, ZW, simprocAttr]
 refine NewB.of fun b1 hb1 hF1 => ?_
 simp (disch := first | assumption | exact Ne.symm (by assumption) | omega) only [hF1, ↓ZD, ZW, simprocAttr]
 refine CallE.news (words_does _ (hg.mono le_up) s hs) ?_
 intro v H1 hv n1 d1 up1
 have d1 : ∀ e ∈ H1, e.1 ≠ b1 := fun e he => d1 (b1, _) List.mem_cons_self e he
 clear up1
 have z0 : ((0 : Int) != 0) = false := by decide
 have z12 : ((12 : Int) != 0) = true := by decide
 unfold WordsPost at hv
 unfold parseS
 by_cases hl : 65536 < s.length
 ·rw [if_pos hl] at hv ⊢
  obtain ⟨rfl, rfl⟩ := hv
  simp (disch := first | assumption | exact Ne.symm (by assumption) | omega) only [hF1, z12, ↓ZD, ZW, simprocAttr]
  exact ⟨xcells 0 lv0 (.slice none 0 0) (.slice none 0 0) [] (.slice none 0 0) (.slice none 0 0), [], rfl, ⟨rfl, rfl, rfl, rfl⟩, repP_nil, by simp⟩
 rw [if_neg hl] at hv ⊢
 cases hw : words s with
 | error y =>
  obtain ⟨e, a⟩ := y
  rw [hw] at hv
  obtain ⟨rfl, rfl⟩ := hv
  have he := w1_err _ _ _ _ hw
  have hd : (e != 0) = true := by simpa using he
  simp (disch := first | assumption | exact Ne.symm (by assumption) | omega) only [hF1, hd, ↓ZD, ZW, simprocAttr]
  exact ⟨xcells 0 lv0 (.slice none 0 0) (.slice none 0 0) [] (.slice none 0 0) (.slice none 0 0), [], rfl, ⟨rfl, rfl, rfl, rfl⟩, repP_nil, by simp⟩
 | ok l =>
  rw [hw] at hv
  obtain ⟨v, ho, rfl⟩ := hv
  have hok := words_ok (by omega) hw
  have hne := words_ne' hw
  rcases ho.out with ⟨h0, -⟩ | ⟨bw, cap, sp, rfl, rfl, hFw, h1, h2, h3, h4⟩
  ·exact absurd (cellsW_nil h0) hne
  have hFw := rdObj_le hFw
  have nb : bw ≠ b1 := d1 _ (List.mem_singleton.2 rfl)
  simp only [List.cons_append, List.nil_append]
  simp (disch := first | assumption | exact Ne.symm (by assumption) | omega) only [hF1, hFw, z0, ↓ZD, ZW, simprocAttr]
  have hW : HasW (rdObj F [(bw, .cells (cellsW l ++ sp).toArray 46 (0, 0))]) l (.slice (some ⟨bw, 0, none⟩) l.length cap) := ⟨bw, cap, sp, _, _, rfl, rdObj_hd hFw, h3, h4, hne⟩
  refine CallG.frame (F1 := rdObj F [(bw, .cells (cellsW l ++ sp).toArray 46 (0, 0))]) (H0 := []) (Hr := [(b1, .cells zx.toArray 30 (0, 0)), (bw, .cells (cellsW l ++ sp).toArray 46 (0, 0))]) (read_does _ (hMx.mono le_up) hok hW 0) ?_ (fun e h => by cases h) (fun e h => h) (fun e' _ e h => by cases h) ?_
  ·exact fun _ _ h => rdObj_sub (by simp [lk, Ne.symm nb, nb]) h
  rintro r H2 ⟨cs, rfl, hc, hr, hwk⟩ n2 d2 -
  have g1 : ∀ e ∈ H2, e.1 ≠ b1 := fun e he => d2 (b1, _) List.mem_cons_self e he
  have gw : ∀ e ∈ H2, e.1 ≠ bw := fun e he => d2 (bw, _) (List.mem_cons_of_mem _ List.mem_cons_self) e he
  have hr2 : RepP (rdObj F ((bw, .cells (cellsW l ++ sp).toArray 46 (0, 0)) :: H2)) cs (readS l 0).1 := hr.mono fun _ _ h => rdObj_app (G := [_]) h
  have hin := read_in (words_end hw) (i := 0) ⟨Int.le_refl _, by have := List.length_pos_iff.2 hne; omega⟩
  have hlen := hok.1
  generalize readS l 0 = R at *
  obtain ⟨x, k, e, a⟩ := R
  unfold parseL
  simp only at hr2 hin ⊢
  clear hr n1 n2 d1 d2
  simp only [List.cons_append, List.nil_append]
  have hu1 : ∀ o, upd H2 b1 o = H2 := fun o => upd_new g1
  have c12 := hc.1
  have cok := hc.2.1
  have ht : cs.take 12 = cs := List.take_of_length_le (Nat.le_of_eq c12)
  have hz : cs.drop 12 = [] := List.drop_eq_nil_of_le (Nat.le_of_eq c12)
  simp (disch := first | assumption | exact Ne.symm (by assumption) | omega) only [hF1, hFw, hu1, c12, cok, ht, hz, ↓ZD, ZW, simprocAttr]
  refine NewB.of fun b2 hb2 hF2 => ?_
  simp only [List.forall_mem_cons, List.not_mem_nil, false_implies, implies_true, and_true] at hb2
  obtain ⟨n12, nw2, g2⟩ := hb2
  have hu2 : ∀ o, upd H2 b2 o = H2 := fun o => upd_new g2
  by_cases he : e = 0
  ·have hd : (e != 0) = false := by simpa using he
   rw [if_neg (by simpa using he)]
   obtain ⟨i1, i2, i3⟩ := hin he
   obtain ⟨i, rfl⟩ : ∃ i : Nat, k = i := ⟨k.toNat, by omega⟩
   have hlt : i < l.length := by omega
   have hld := wds_at0 (sp := sp) (T := 46) (fz := (0, 0)) hlt
   have hld3 := wds_at3 (ws := l) (sp := sp) (T := 46) (fz := (0, 0)) (i := i) hlt
   rw [wdAt_in hlt]
   by_cases hk : (((l.getD i ((0, [], 0), 0)).1.1 : Nat) : Int) = 0
   ·have hkd : ((((l.getD i ((0, [], 0), 0)).1.1 : Nat) : Int) != 0) = false := by simpa using hk
    rw [if_neg (by simpa using hk)]
    simp (disch := first | assumption | exact Ne.symm (by assumption) | omega) only [hF1, hFw, hF2, hu1, hu2, c12, cok, ht, hz, hd, ↓ZD, ZW, simprocAttr]
    refine conj.of (by omega) ?_
    simp (disch := first | assumption | exact Ne.symm (by assumption) | omega) only [hF1, hFw, hF2, hu1, hu2, c12, cok, ht, hz, hd, hkd, hld, Int.toNat_natCast, ↓ZD, ZW, simprocAttr]
    refine CallE.pureH (dep_pure _ (hr2.mono fun _ _ h => rdObj_sub ?_ h).toX (by omega)) ?_
    ·intro e he
     rcases List.mem_cons.1 he with rfl | he
     ·simp [lk, nb, Ne.symm nb, nw2, Ne.symm nw2]
     ·have hh := hwk e he
      simp [lk, g1 e he, gw e he, g2 e he, Ne.symm (g1 e he), Ne.symm (gw e he), Ne.symm (g2 e he), hh]
    by_cases hdp : 50 < depX x
    ·have hdd : decide ((50 : Int) < (depX x : Int)) = true := by simp; omega
     rw [if_pos hdp]
     simp (disch := first | assumption | exact Ne.symm (by assumption) | omega) only [hF1, hFw, hF2, hu1, hu2, c12, cok, ht, hz, hd, hdd, ↓ZD, ZW, simprocAttr]
     exact ⟨xcells 0 lv0 (.slice none 0 0) (.slice none 0 0) [] (.slice none 0 0) (.slice none 0 0), [], rfl, ⟨rfl, rfl, rfl, rfl⟩, repP_nil, by simp⟩
    ·have hdd : decide ((50 : Int) < (depX x : Int)) = false := by simp; omega
     rw [if_neg hdp]
     simp (disch := first | assumption | exact Ne.symm (by assumption) | omega) only [hF1, hFw, hF2, hu1, hu2, c12, cok, ht, hz, hd, hdd, ↓ZD, ZW, simprocAttr]
     exact ⟨cs, _, rfl, hc, hr2, by simp +contextual⟩
   ·have hkd : ((((l.getD i ((0, [], 0), 0)).1.1 : Nat) : Int) != 0) = true := by simpa using hk
    rw [if_pos hk]
    simp (disch := first | assumption | exact Ne.symm (by assumption) | omega) only [hF1, hFw, hF2, hu1, hu2, c12, cok, ht, hz, hd, ↓ZD, ZW, simprocAttr]
    refine conj.of (by omega) ?_
    simp (disch := first | assumption | exact Ne.symm (by assumption) | omega) only [hF1, hFw, hF2, hu1, hu2, c12, cok, ht, hz, hd, hkd, hld, Int.toNat_natCast, ↓ZD, ZW, simprocAttr]
    refine TreeL.open ?_
    simp (disch := first | assumption | exact Ne.symm (by assumption) | omega) only [hF1, hFw, hF2, hu1, hu2, c12, cok, ht, hz, hd, hkd, hld, hld3, Int.toNat_natCast, ↓ZD, ZW, simprocAttr]
    refine conj.of (by omega) ?_
    simp (disch := first | assumption | exact Ne.symm (by assumption) | omega) only [hF1, hFw, hF2, hu1, hu2, c12, cok, ht, hz, hd, hkd, hld, hld3, Int.toNat_natCast, ↓ZD, ZW, simprocAttr]
    repeat' (first | exact ⟨xcells 0 lv0 (.slice none 0 0) (.slice none 0 0) [] (.slice none 0 0) (.slice none 0 0), [], rfl, ⟨rfl, rfl, rfl, rfl⟩, repP_nil, by simp⟩ | apply And.intro)
  ·have hd : (e != 0) = true := by simpa using he
   rw [if_pos he]
   simp (disch := first | assumption | exact Ne.symm (by assumption) | omega) only [hF1, hFw, hF2, hu1, hu2, c12, cok, ht, hz, hd, ↓ZD, ZW, simprocAttr]
   exact ⟨xcells 0 lv0 (.slice none 0 0) (.slice none 0 0) [] (.slice none 0 0) (.slice none 0 0), [], rfl, ⟨rfl, rfl, rfl, rfl⟩, repP_nil, by simp⟩
end Go.Proofs.YtkbhinfpndnnfaaDoor
namespace Go.Proofs.YtkbhinfpndnnfaaDoor
open Go Go.Eng
set_option maxHeartbeats 1000000
set_option linter.unusedSimpArgs false
set_option linter.unusedVariables false
set_option maxRecDepth 20000
def tx1 : Str := [49, 32, 43, 32, 50, 32, 42, 32, 51, 32, 61, 61, 32, 55]
def tx3 : Str := [85, 115, 101, 114, 58, 58, 34, 97, 34, 32, 120]
def wsA : Ws := [((2, [49], 1), 0), ((5, [43], 0), 2), ((2, [50], 2), 4), ((5, [42], 0), 6), ((2, [51], 3), 8), ((5, [61, 61], 0), 10), ((2, [55], 7), 13), ((0, [], 0), 14)]
def wsC : Ws := [((1, [85, 115, 101, 114], 0), 0), ((5, [58, 58], 0), 4), ((3, [97], 0), 6), ((1, [120], 0), 10), ((0, [], 0), 11)]
def litN (n : Int) : Ex' := litX ⟨2, false, n, [], [], []⟩
theorem wordsA : words tx1 = .ok wsA := by rfl
theorem wordsB : words [97] = .ok [((1, [97], 0), 0), ((0, [], 0), 1)] := by rfl
theorem wordsC : words tx3 = .ok wsC := by rfl
theorem readA : G wsA 20 .expr (st0 0) = some (twoX 8 (twoX 11 (litN 1) (twoX 13 (litN 2) (litN 3))) (litN 7), st0 7) := by rfl
theorem readB : G [((1, [97], 0), 0), ((0, [], 0), 1)] 20 .expr (st0 0) = some (nilX, ⟨0, 0, 10, 0⟩) := by rfl
theorem readSA : readS wsA 0 = (twoX 8 (twoX 11 (litN 1) (twoX 13 (litN 2) (litN 3))) (litN 7), 7, 0, 0) := by
 unfold readS; rw [runG_of readA]; rfl
theorem readSB : readS [((1, [97], 0), 0), ((0, [], 0), 1)] 0 = (nilX, 0, 10, 0) := by
 unfold readS; rw [runG_of readB]; rfl
theorem parseA : parseS tx1 = (twoX 8 (twoX 11 (litN 1) (twoX 13 (litN 2) (litN 3))) (litN 7), 0, 0) := by
 unfold parseS; rw [if_neg (by decide), wordsA]; simp only; rw [readSA]; rfl
theorem parseB : parseS [97] = (nilX, 10, 0) := by
 unfold parseS; rw [if_neg (by decide), wordsB]; simp only; rw [readSB]; rfl
theorem uidC : uidR wsC 0 = (([85, 115, 101, 114], [97]), 3, 0, 0) := by rfl
theorem kid0 {F : Base} {cs : List Value} {op : Int} {x y : Ex'} {a1 : Option Addr} {m1 : Nat} (h : RepP F cs (twoX op x y)) (hc : cs[10]? = some (.slice a1 2 m1)) : ∃ b off, a1 = some ⟨b, off, none⟩ ∧ cellsO (F b) off 1 = some [.int .i64 x.op] := by
 cases h with
 | mk _ _ _ a2 m2 _ g1 vn _ _ _ _ _ hq h1 r1 hN =>
  have e : a2 = a1 := by
   simp only [xcells, List.getElem?_cons_succ, List.getElem?_cons_zero, Option.some.injEq, Value.slice.injEq] at hc
   exact hc.1
  subst e
  obtain ⟨b, off, c, T, fz, e, k2, k3, k4⟩ := h1 0 x rfl
  have r := r1 0 x rfl
  generalize g1 0 = d at r k4
  refine ⟨b, off, e, ?_⟩
  rw [k2]
  unfold cellsO
  have hs : off + 1 ≤ c.size := by omega
  simp only [hs, if_true]
  rw [Nat.zero_mul, Nat.add_zero] at k4
  have : (c.toList.drop off).take 1 = d.take 1 := by rw [← k4, List.take_take]; rfl
  rw [this]
  cases r
  rfl
theorem uid_at {F : Base} {ws : Ws} {l : Value} {i : Int} {R : (Str × Str) × Int × Int × Int} (hws : WsOk ws) (hW : HasW F ws l) (h : uidR ws i = R) : PureV Tryd.prog F 11 #[l, .int .i64 i] (.tuple #[.agg #[.string (bs R.1.1), .string (bs R.1.2)], .int .i64 R.2.1, .int .i64 R.2.2.1, .int .i64 R.2.2.2]) := h ▸ uid_pure F hws hW i
theorem awake_pure (F : Base) (hg : HasMarks F) (hMx : HasMx F) : PureV Tryd.prog F 4 #[] (.bool true) := by
 refine pureV_of_svc (args := []) mixed Tryd.func4 low4 (Nat.le_of_ble_eq_true rfl) (fun w0 => ?_)
 simp (disch := first | assumption | exact Ne.symm (by assumption) | omega) only [fu4, ↓ZD, ZW, simprocAttr]
 refine CallE.news (parse_does _ (hg.mono le_up) (hMx.mono le_up) tx1 (by decide)) ?_
 rw [parseA]
 rintro r H1 ⟨cs1, rfl, hc1, hr1⟩ n1 d1 u1
 have hr1 : RepP (rdObj F H1) cs1 (twoX 8 (twoX 11 (litN 1) (twoX 13 (litN 2) (litN 3))) (litN 7)) := hr1.mono fun b o h => u1 b o h
 have hrx := hr1
 obtain ⟨a1, m1, av, nv, cv, hcs⟩ : ∃ a1 m1 av nv cv, cs1 = [.int .i64 8, .int .i64 0, .bool false, .int .i64 0, .string (bs []), .string (bs []), .string (bs []), .slice none 0 0, .slice none 0 0, .string (bs []), .slice a1 2 m1, .slice av nv cv] := by
  cases hr1 with
  | mk _ _ _ a1 m1 _ g1 vn _ _ _ _ _ hq h1 r1 hN =>
   obtain ⟨av, cv, rfl, -⟩ := hN
   exact ⟨_, _, _, _, _, rfl⟩
 subst hcs
 clear hr1 u1 d1 hc1
 simp only [List.nil_append]
 simp (disch := first | assumption | exact Ne.symm (by assumption) | omega) only [↓ZD, ZW, simprocAttr]
 refine NewB.of fun b1 hb1 hF1 => ?_
 have hu1 : ∀ o, upd H1 b1 o = H1 := fun o => upd_new hb1
 simp (disch := first | assumption | exact Ne.symm (by assumption) | omega) only [hF1, hu1, ↓ZD, ZW, simprocAttr]
 refine CallE.news (parse_does _ (hg.mono le_up) (hMx.mono le_up) [97] (by decide)) ?_
 rw [parseB]
 rintro r H2 ⟨cs2, rfl, hc2, hr2⟩ n2 d2 -
 have c2 := hc2.1
 have k2 := hc2.2
 have t2 : cs2.take 12 = cs2 := List.take_of_length_le (Nat.le_of_eq c2)
 have z2 : cs2.drop 12 = [] := List.drop_eq_nil_of_le (Nat.le_of_eq c2)
 have e21 : ∀ e ∈ H2, e.1 ≠ b1 := fun e he => d2 _ List.mem_cons_self e he
 have hu12 : ∀ o, upd (H1 ++ H2) b1 o = H1 ++ H2 := fun o => upd_new (all_app hb1 e21)
 have l1 : ∀ b o, rdObj F H1 b = some o → rdObj F (H1 ++ H2) b = some o := fun _ _ => rdObj_app1
 have hrx := hrx.mono l1
 clear d2 hr2 n1 n2 l1 hu1
 simp only [List.cons_append]
 have g1 := all_app (P := fun e => e.1 ≠ b1) hb1 e21
 clear hb1 e21
 generalize H1 ++ H2 = H3 at *
 simp (disch := first | assumption | exact Ne.symm (by assumption) | omega) only [hF1, hu12, c2, k2, t2, z2, ↓ZD, ZW, simprocAttr]
 refine NewB.of fun b2 hb2 hF2 => ?_
 have n12 : b1 ≠ b2 := hb2 (b1, _) List.mem_cons_self
 have g2 : ∀ e ∈ H3, e.1 ≠ b2 := fun e he => hb2 e (List.mem_cons_of_mem _ he)
 have hu2 : ∀ o, upd H3 b2 o = H3 := fun o => upd_new g2
 simp (disch := first | assumption | exact Ne.symm (by assumption) | omega) only [hF1, hF2, hu12, hu2, c2, k2, t2, z2, ↓ZD, ZW, simprocAttr]
 refine CallE.news (words_does _ (hg.mono le_up) tx3 (by decide)) ?_
 rintro v H4 hv n4 d4 -
 unfold WordsPost at hv
 rw [if_neg (by decide), wordsC] at hv
 obtain ⟨v, ho, rfl⟩ := hv
 rcases ho.out with ⟨h0, -⟩ | ⟨bw, cap, sp, rfl, rfl, hFw, q1, q2, q3, q4⟩
 ·exact absurd h0 (by intro h; cases h)
 have hFw := rdObj_le hFw
 simp only [List.cons_append]
 simp (disch := first | assumption | exact Ne.symm (by assumption) | omega) only [hF1, hF2, ↓ZD, ZW, simprocAttr]
 have w1 : bw ≠ b1 := d4 (b1, _) (List.mem_cons_of_mem _ List.mem_cons_self) _ (List.mem_singleton.2 rfl)
 have w2 : bw ≠ b2 := d4 (b2, _) List.mem_cons_self _ (List.mem_singleton.2 rfl)
 have w3 : ∀ e ∈ H3, e.1 ≠ bw := fun e he => (d4 e (List.mem_cons_of_mem _ (List.mem_cons_of_mem _ he)) _ (List.mem_singleton.2 rfl)).symm
 clear d4 n4
 have hlw : lk (H3 ++ [(bw, .cells (cellsW wsC ++ sp).toArray 46 (0, 0))]) bw = some (.cells (cellsW wsC ++ sp).toArray 46 (0, 0)) := by
  rw [lk_append, lk_none w3]; simp [lk]
 have hrx := hrx.mono fun b o h => rdObj_app1 (Hx := [(bw, .cells (cellsW wsC ++ sp).toArray 46 (0, 0))]) h
 have g1 : ∀ e ∈ H3 ++ [(bw, .cells (cellsW wsC ++ sp).toArray 46 (0, 0))], e.1 ≠ b1 := all_app g1 (all_cons w1 all_nil)
 have g2 : ∀ e ∈ H3 ++ [(bw, .cells (cellsW wsC ++ sp).toArray 46 (0, 0))], e.1 ≠ b2 := all_app g2 (all_cons w2 all_nil)
 generalize H3 ++ [(bw, .cells (cellsW wsC ++ sp).toArray 46 (0, 0))] = H4 at *
 refine CallE.pureH (uid_at (words_ok (by decide) wordsC) ⟨bw, cap, sp, 46, (0, 0), rfl, ?_, q3, q4, by decide⟩ uidC) ?_
 ·exact (rdObj_own hFw).trans (by simp [lk, w1, w2, Ne.symm w1, Ne.symm w2, hlw])
 simp (disch := first | assumption | exact Ne.symm (by assumption) | omega) only [hF1, hF2, ↓ZD, ZW, simprocAttr]
 refine NewB.of fun b3 hb3 hF3 => ?_
 have n13 : b1 ≠ b3 := hb3 (b1, _) (List.mem_cons_of_mem _ List.mem_cons_self)
 have n23 : b2 ≠ b3 := hb3 (b2, _) List.mem_cons_self
 have g3 : ∀ e ∈ H4, e.1 ≠ b3 := fun e he => hb3 e (List.mem_cons_of_mem _ (List.mem_cons_of_mem _ he))
 have hv1 : ∀ o, upd H4 b1 o = H4 := fun o => upd_new g1
 have hv2 : ∀ o, upd H4 b2 o = H4 := fun o => upd_new g2
 have hv3 : ∀ o, upd H4 b3 o = H4 := fun o => upd_new g3
 have hf := hrx.mono fun b o h => rdObj_r (G := [(b3, .cells #[Value.string (bs [85, 115, 101, 114]), Value.string (bs [97])] 23 (0, 0)), (b2, .cells cs2.toArray 30 (0, 0)), (b1, .cells #[.int .i64 8, .int .i64 0, .bool false, .int .i64 0, .string (bs []), .string (bs []), .string (bs []), .slice none 0 0, .slice none 0 0, .string (bs []), .slice a1 2 m1, .slice av nv cv] 30 (0, 0))]) (X := H4) (all_cons (P := fun e => ∀ e' ∈ H4, e'.1 ≠ e.1) g3 (all_cons (P := fun e => ∀ e' ∈ H4, e'.1 ≠ e.1) g2 (all_cons (P := fun e => ∀ e' ∈ H4, e'.1 ≠ e.1) g1 all_nil))) h
 simp only [List.cons_append, List.nil_append] at hf
 have hdx : (((depX (twoX 8 (twoX 11 (litN 1) (twoX 13 (litN 2) (litN 3))) (litN 7)) : Nat) : Int) == 4) = true := by decide
 obtain ⟨ba, oa, e1, hl⟩ := kid0 hf rfl
 subst e1
 have e8 : ((8 : Int) == 8) = true := by decide
 have hop : (((twoX 11 (litN 1) (twoX 13 (litN 2) (litN 3))).op : Int) == 11) = true := by decide
 simp (disch := first | assumption | exact Ne.symm (by assumption) | omega) only [hF1, hF2, hF3, hv1, hv2, hv3, hl, hop, ↓ZD, ZW, simprocAttr]
 refine CallQ.of _ (dep_pure _ hf.toX (by decide)) ?_
 simp (disch := first | assumption | exact Ne.symm (by assumption) | omega) only [hF1, hF2, hF3, hv1, hv2, hv3, hl, hop, hdx, ↓ZD, ZW, simprocAttr]
 done
end Go.Proofs.YtkbhinfpndnnfaaDoor
namespace Go.Proofs.YtkbhinfpndnnfaaDoor
open Go
set_option linter.unusedSimpArgs false
set_option linter.unusedVariables false
set_option maxRecDepth 20000
theorem lx_laid : Rows.laid_chamberlain_lex_marks (H := Unit) = .agg (marksL.map fun m => .lit (.string m)) := by kernel_rfl
theorem lx_global : Tryd.prog.globalNamed "chamberlain/lex.marks" = some 0 := by kernel_rfl
theorem lx_type : (Tryd.prog.globals[0]?).map (·.type) = some 64 := by kernel_rfl
theorem lx_cells : Tryd.prog.cellsOf 9 = 1 := by kernel_rfl
theorem lx_cells2 : Tryd.prog.cellsOf 64 = 23 := by kernel_rfl
theorem hasMarks_of {w : World} (h : laidMetH Tryd.prog [("chamberlain/lex.marks", Rows.laid_chamberlain_lex_marks)] w) : HasMarks (fun b => w.heap[b]?) := by
 rw [MakeChecks.laidMetH_plain _ _ _ (by kernel_rfl)] at h
 obtain ⟨ps, ⟨g0, t0, cs0, f0, p0, q0, hg0, ht0, hv0, hd0, -, -⟩, -, -⟩ := h
 obtain rfl := Option.some.inj (lx_global.symm.trans hg0)
 obtain rfl := Option.some.inj (lx_type.symm.trans ht0)
 obtain ⟨xs, m1, rfl, hx1, hlen, hn3, hel⟩ := DataW.trod_array Tryd.underlying64 hd0
 rw [lx_laid] at hx1
 rw [lx_cells2] at hlen
 simp only [Prod.mk.injEq, DataW.agg.injEq] at hx1
 have key : cs0.toList = marksL.map fun x => Value.string (Eng.bs x) := by
  apply List.ext_getElem?
  intro i
  rcases Nat.lt_or_ge i 23 with hi | hi
  ·have h0 := hel i hi
   rw [lx_cells, Nat.mul_one] at h0
   obtain ⟨x, hx⟩ : ∃ x, xs[i]? = some x := ⟨_, List.getElem?_eq_getElem (by omega)⟩
   rw [hx] at h0
   obtain ⟨s, e1, e2, -⟩ := DataW.trod_string Tryd.underlying9 h0
   have h2 : (marksL.map fun m => (DataW.lit (Lit.string m) : DataW Unit))[i]? = some (.lit (.string s.data.toList)) := by
    rw [hx1.1, List.getElem?_map, hx, e2]; rfl
   have hi2 : i < marksL.length := hi
   rw [List.getElem?_map, List.getElem?_eq_getElem hi2] at h2
   simp only [Option.map_some, Option.some.injEq, DataW.lit.injEq] at h2
   rw [List.getElem?_map, List.getElem?_eq_getElem hi2, ← List.head?_drop]
   have h3 : (cs0.toList.drop i).head? = ((cs0.toList.drop i).take 1).head? := by cases cs0.toList.drop i <;> rfl
   rw [h3, e1]
   simp only [List.head?_cons, Option.map_some, Option.some.injEq, Value.string.injEq]
   have h4 : marksL[i] = s.data.toList := by simpa using h2
   rw [h4]
   cases s; rfl
  ·rw [List.getElem?_eq_none (by omega), List.getElem?_eq_none (by rw [List.length_map]; exact hi)]
 simp only [World.var?, hg0, Option.bind_some] at hv0
 cases hb : w.heap[(0 : Nat)]? with
 | none => rw [hb] at hv0; cases hv0
 | some o =>
  rw [hb] at hv0
  cases o with
  | cells c T fz =>
   simp only [Option.some.injEq] at hv0
   subst hv0
   refine ⟨T, fz, ?_⟩
   show w.heap[(0 : Nat)]? = _
   rw [hb, ← key]
  | _ => cases hv0
theorem hasM_of {w : World} (hsh : w.ShapedOpen Tryd.prog) : HasMx (fun b => w.heap[b]?) := by
 obtain ⟨m, h⟩ := Go.Proofs.cell_of_shapedOpen_int (g := 1) (zero := #[.int .i64 0]) (t := 3) hsh (of_decide_eq_true (by kernel_rfl)) (by kernel_rfl) rfl (by kernel_rfl) (by kernel_rfl) Tryd.underlying3
 unfold World.cell? at h
 split at h
 ·rename_i c T fz hb
  exact ⟨c, T, fz, m, hb, by simpa using h⟩
 ·simp at h
end Go.Proofs.YtkbhinfpndnnfaaDoor
namespace Go.Proofs.YtkbhinfpndnnfaaDoor
open Go Go.Eng
set_option maxHeartbeats 1000000
set_option linter.unusedSimpArgs false
set_option linter.unusedVariables false
set_option maxRecDepth 20000
mutual
def fwX : Ex' → Nat → Bool
 | .mk _ _ _ kids _, d => if kids.length > 20 ∨ d > 60 then false else fwL kids (d + 1)
def fwL : List Ex' → Nat → Bool
 | [], _ => true
 | x :: l, d => fwX x d && fwL l d
end
mutual
def szX : Ex' → Nat
 | .mk _ _ _ kids _ => szL kids 1
def szL : List Ex' → Nat → Nat
 | [], n => n
 | x :: l, n => if n < 1000 then szL l (n + szX x) else n
end
mutual
theorem fwX_dep : ∀ (x : Ex') (d : Nat), fwX x d = true → depX x + d ≤ 62
 | .mk _ _ _ kids _, d, h => by
  rw [fwX] at h
  split at h
  ·cases h
  ·have := fwL_dep kids (d + 1) h
   rw [depX]; omega
theorem fwL_dep : ∀ (l : List Ex') (d : Nat), fwL l d = true → depXL l + d ≤ 62 ∨ depXL l = 0
 | [], _, _ => Or.inr (by simp [depXL])
 | x :: l, d, h => by
  rw [fwL, Bool.and_eq_true] at h
  have h1 := fwX_dep x d h.1
  have h2 := fwL_dep l d h.2
  rw [depXL]; omega
end
theorem fwL_drop {l : List Ex'} {i : Nat} {x : Ex'} (h : l[i]? = some x) (d : Nat) : fwL (l.drop i) d = (fwX x d && fwL (l.drop (i + 1)) d) := by
 obtain ⟨hi, rfl⟩ := List.getElem?_eq_some_iff.mp h
 rw [List.drop_eq_getElem_cons hi, fwL]
theorem szL_drop {l : List Ex'} {i : Nat} {x : Ex'} (h : l[i]? = some x) (n : Nat) : szL (l.drop i) n = if n < 1000 then szL (l.drop (i + 1)) (n + szX x) else n := by
 obtain ⟨hi, rfl⟩ := List.getElem?_eq_some_iff.mp h
 rw [List.drop_eq_getElem_cons hi, szL]
mutual
theorem szX_le : ∀ x : Ex', szX x ≤ 1000 * depX x
 | .mk _ _ _ kids _ => by
  have := szL_le kids 1
  rw [szX, depX]; omega
theorem szL_le : ∀ (l : List Ex') (n : Nat), szL l n ≤ max n (999 + 1000 * depXL l)
 | [], n => by rw [szL]; omega
 | x :: l, n => by
  have h1 := szX_le x
  have h2 := szL_le l (n + szX x)
  rw [szL, depXL]
  split <;> omega
end
theorem few_pure (F : Base) {cs : List Value} {e : Ex'} (h : RepX F cs e) : ∀ d : Nat, d ≤ 61 → PureV Tryd.prog F 5 #[.agg cs.toArray, .int .i64 d] (.bool (fwX e d)) := by
 induction h with
 | mk op v u1 u2 nm a1 c1 kids g1 vn names hu hop hk hn hl1 hc1 h1 r1 hN i1 =>
  intro d hd61
  obtain ⟨an, cn, rfl, hcn, -⟩ := hN
  refine pureV_of_svc (args := [.agg (xcells op v u1 u2 nm (.slice a1 kids.length c1) (.slice an names.length cn)).toArray, .int .i64 d]) mixed Tryd.func5 low5 (Nat.le_of_ble_eq_true rfl) (fun w0 => ?_)
  unfold xcells
  simp (disch := first | assumption | exact Ne.symm (by assumption) | omega) only [fu5, ↓ZD, ZW, simprocAttr]
  refine NewB.of fun b1 hb1 hF1 => ?_
  rw [fwX]
  by_cases h20 : kids.length > 20
  ·have e1 : decide ((20 : Int) < (kids.length : Int)) = true := by simp; omega
   rw [if_pos (Or.inl h20)]
   simp (disch := first | assumption | exact Ne.symm (by assumption) | omega) only [hF1, e1, ↓ZD, ZW, simprocAttr]
  have e1 : decide ((20 : Int) < (kids.length : Int)) = false := by simp; omega
  by_cases h60 : d > 60
  ·have e2 : decide ((60 : Int) < (d : Int)) = true := by simp; omega
   rw [if_pos (Or.inr h60)]
   simp (disch := first | assumption | exact Ne.symm (by assumption) | omega) only [hF1, e1, e2, ↓ZD, ZW, simprocAttr]
  have e2 : decide ((60 : Int) < (d : Int)) = false := by simp; omega
  rw [if_neg (by omega)]
  simp (disch := first | assumption | exact Ne.symm (by assumption) | omega) only [hF1, e1, e2, ↓ZD, ZW, simprocAttr]
  refine LoopL.inv (α := Nat) (fun i => i ≤ kids.length ∧ fwL kids (d + 1) = fwL (kids.drop i) (d + 1))
   (fun i => [(1, some (.int .i64 d)), (2, some (.pointer (some ⟨b1, 0, none⟩))), (5, some (.int .i64 i))])
   (fun i => [(b1, .cells (xcells op v u1 u2 nm (.slice a1 kids.length c1) (.slice an names.length cn)).toArray 30 (0, 0))])
   (fun i => kids.length - i) 0 ⟨Nat.zero_le _, rfl⟩ (by (simp (disch := first | assumption | exact Ne.symm (by assumption) | omega) only [↓ZD, ZW, simprocAttr]; try trivial)) ?_ ?_
  ·simp only [HLe_nil, HLe_cons, xcells]
   simp (disch := first | assumption | exact Ne.symm (by assumption) | omega) only [↓ZD, ZW, simprocAttr]
  ·rintro i ⟨hi, hfw⟩
   rw [hfw]
   by_cases hlt : i < kids.length
   ·have hd : decide ((i : Int) < (kids.length : Int)) = true := by simp; omega
    have gx := getX hlt
    have hc := i1 i _ gx (d + 1) (by omega)
    obtain ⟨q1, q2, q3, q4, q5, q6, q7, q8, q9, q10, q11, q12, q13, q14, q15, q16, q17, q18, q19, q20, e3⟩ := (r1 i _ gx).form
    obtain ⟨ba, oa, rfl, hla⟩ := (h1 i _ gx).ldn
    rw [e3] at hc hla
    have hs := fwL_drop gx (d + 1)
    rw [hs]
    unfold xcells
    simp (disch := first | assumption | exact Ne.symm (by assumption) | omega) only [hF1, hd, ↓ZD, ZW, simprocAttr]
    refine conj.of (by omega) ?_
    simp (disch := first | assumption | exact Ne.symm (by assumption) | omega) only [hF1, hd, Int.toNat_natCast, ↓hla, ↓ZD, ZW, simprocAttr]
    refine CallE.pure hc ?_
    cases hb : fwX (kids.getD i nilX) (d + 1)
    ·simp (disch := first | assumption | exact Ne.symm (by assumption) | omega) only [hF1, hd, ↓ZD, ZW, simprocAttr]
    ·simp (disch := first | assumption | exact Ne.symm (by assumption) | omega) only [hF1, hd, ↓ZD, ZW, simprocAttr]
     refine invK.on (i + 1) ⟨by omega, ?_⟩ (by omega) (by (simp (disch := first | assumption | exact Ne.symm (by assumption) | omega) only [↓ZD, ZW, simprocAttr]; try trivial)) ?_
     ·first | rfl | simp only [hb, Bool.true_and]
     ·simp only [HLe_nil, HLe_cons, xcells]
      simp (disch := first | assumption | exact Ne.symm (by assumption) | omega) only [↓ZD, ZW, simprocAttr]
   ·have hd : decide ((kids.length : Int) < (kids.length : Int)) = false := by simp
    obtain rfl : i = kids.length := by omega
    rw [List.drop_length, fwL]
    unfold xcells
    simp (disch := first | assumption | exact Ne.symm (by assumption) | omega) only [hF1, hd, ↓ZD, ZW, simprocAttr]
theorem size_pure (F : Base) {cs : List Value} {e : Ex'} (h : RepX F cs e) : depX e ≤ 1000000000 → PureV Tryd.prog F 6 #[.agg cs.toArray] (.int .i64 (szX e)) := by
 induction h with
 | mk op v u1 u2 nm a1 c1 kids g1 vn names hu hop hk hn hl1 hc1 h1 r1 hN i1 =>
  intro hw
  obtain ⟨an, cn, rfl, hcn, -⟩ := hN
  rw [depX] at hw
  refine pureV_of_svc mixed Tryd.func6 low6 (Nat.le_of_ble_eq_true rfl) (fun w0 => ?_)
  unfold xcells
  simp (disch := first | assumption | exact Ne.symm (by assumption) | omega) only [fu6, ↓ZD, ZW, simprocAttr]
  refine NewB.of fun b1 hb1 hF1 => ?_
  rw [szX]
  simp (disch := first | assumption | exact Ne.symm (by assumption) | omega) only [hF1, ↓ZD, ZW, simprocAttr]
  refine LoopL.inv (α := Nat × Nat) (fun x => x.1 ≤ kids.length ∧ szL kids 1 = szL (kids.drop x.1) x.2 ∧ x.2 ≤ 999 + 1000 * depXL kids)
   (fun x => [(1, some (.pointer (some ⟨b1, 0, none⟩))), (3, some (.int .i64 x.2)), (4, some (.int .i64 x.1))])
   (fun i => [(b1, .cells (xcells op v u1 u2 nm (.slice a1 kids.length c1) (.slice an names.length cn)).toArray 30 (0, 0))])
   (fun x => kids.length - x.1) (0, 1) ⟨Nat.zero_le _, rfl, by simp only; omega⟩ (by (simp (disch := first | assumption | exact Ne.symm (by assumption) | omega) only [↓ZD, ZW, simprocAttr]; try trivial)) ?_ ?_
  ·simp only [HLe_nil, HLe_cons, xcells]
   simp (disch := first | assumption | exact Ne.symm (by assumption) | omega) only [↓ZD, ZW, simprocAttr]
  ·rintro ⟨i, n⟩ ⟨hi, hsz, hn9⟩
   simp only at hi hsz hn9 ⊢
   rw [hsz]
   by_cases hlt : i < kids.length
   ·have hd : decide ((i : Int) < (kids.length : Int)) = true := by simp; omega
    have gx := getX hlt
    have hm2 := depXL_mem gx
    have hc := i1 i _ gx (by omega)
    obtain ⟨q1, q2, q3, q4, q5, q6, q7, q8, q9, q10, q11, q12, q13, q14, q15, q16, q17, q18, q19, q20, e1⟩ := (r1 i _ gx).form
    obtain ⟨ba, oa, rfl, hla⟩ := (h1 i _ gx).ldn
    rw [e1] at hc hla
    have hs := szL_drop gx n
    have hz := szX_le (kids.getD i nilX)
    unfold xcells
    by_cases hn1 : n < 1000
    ·have hd2 : decide ((n : Int) < 1000) = true := by simp; omega
     rw [hs, if_pos hn1]
     simp (disch := first | assumption | exact Ne.symm (by assumption) | omega) only [hF1, hd, hd2, ↓ZD, ZW, simprocAttr]
     refine conj.of (by omega) ?_
     simp (disch := first | assumption | exact Ne.symm (by assumption) | omega) only [hF1, hd, hd2, Int.toNat_natCast, ↓hla, ↓ZD, ZW, simprocAttr]
     refine CallE.pure hc ?_
     simp (disch := first | assumption | exact Ne.symm (by assumption) | omega) only [hF1, hd, hd2, ↓ZD, ZW, simprocAttr]
     refine invK.on (i + 1, n + szX (kids.getD i nilX)) ⟨by simp only; omega, ?_, by simp only; omega⟩ (by simp only; omega) (by (simp (disch := first | assumption | exact Ne.symm (by assumption) | omega) only [↓ZD, ZW, simprocAttr]; try trivial)) ?_
     ·first | rfl | (simp only; rfl)
     ·simp only [HLe_nil, HLe_cons, xcells]
      simp (disch := first | assumption | exact Ne.symm (by assumption) | omega) only [↓ZD, ZW, simprocAttr]
    ·have hd2 : decide ((n : Int) < 1000) = false := by simp; omega
     rw [hs, if_neg hn1]
     simp (disch := first | assumption | exact Ne.symm (by assumption) | omega) only [hF1, hd, hd2, ↓ZD, ZW, simprocAttr]
   ·have hd : decide ((kids.length : Int) < (kids.length : Int)) = false := by simp
    obtain rfl : i = kids.length := by omega
    rw [List.drop_length, szL]
    unfold xcells
    simp (disch := first | assumption | exact Ne.symm (by assumption) | omega) only [hF1, hd, ↓ZD, ZW, simprocAttr]
theorem depths_law (F : Base) (hg : HasMarks F) (hMx : HasMx F) {cs : List Value} {e : Ex'} (h : RepX F cs e) : PureV Tryd.prog F 3 #[.agg cs.toArray] (.bool true) := by
 have hx := h
 obtain ⟨q1, q2, q3, q4, q5, q6, q7, q8, q9, q10, q11, q12, q13, q14, q15, q16, q17, q18, q19, q20, rfl⟩ := h.form
 refine pureV_of_svc mixed Tryd.func3 low3 (Nat.le_of_ble_eq_true rfl) (fun w0 => ?_)
 simp (disch := first | assumption | exact Ne.symm (by assumption) | omega) only [fu3, ↓ZD, ZW, simprocAttr]
 refine NewB.of fun b1 hb1 hF1 => ?_
 simp (disch := first | assumption | exact Ne.symm (by assumption) | omega) only [hF1, ↓ZD, ZW, simprocAttr]
 refine CallE.pure (awake_pure F hg hMx) ?_
 simp (disch := first | assumption | exact Ne.symm (by assumption) | omega) only [hF1, ↓ZD, ZW, simprocAttr]
 refine CallE.pure (few_pure F hx 0 (by omega)) ?_
 cases hf : fwX e 0
 ·simp (disch := first | assumption | exact Ne.symm (by assumption) | omega) only [hF1, ↓ZD, ZW, simprocAttr]
  refine CallQ.of (.int .i64 0) trivial ?_
  simp (disch := first | assumption | exact Ne.symm (by assumption) | omega) only [hF1, ↓ZD, ZW, simprocAttr]
 ·have hd := fwX_dep e 0 hf
  simp (disch := first | assumption | exact Ne.symm (by assumption) | omega) only [hF1, ↓ZD, ZW, simprocAttr]
  refine CallQ.of _ (size_pure _ (hx.mono le_up) (by omega)) ?_
  by_cases h5 : szX e > 500
  ·have e5 : decide ((500 : Int) < (szX e : Int)) = true := by simp; omega
   simp (disch := first | assumption | exact Ne.symm (by assumption) | omega) only [hF1, e5, ↓ZD, ZW, simprocAttr]
  ·have e5 : decide ((500 : Int) < (szX e : Int)) = false := by simp; omega
   simp (disch := first | assumption | exact Ne.symm (by assumption) | omega) only [hF1, e5, ↓ZD, ZW, simprocAttr]
   refine CallQ.of _ (dep_pure _ (hx.mono le_up) (by omega)) ?_
   simp (disch := first | assumption | exact Ne.symm (by assumption) | omega) only [hF1, e5, ↓ZD, ZW, simprocAttr]
   refine CallQ.of _ (rdep_pure _ (hx.mono le_up) (by omega)) ?_
   simp (disch := first | assumption | exact Ne.symm (by assumption) | omega) only [hF1, e5, ↓ZD, ZW, simprocAttr]
end Go.Proofs.YtkbhinfpndnnfaaDoor
namespace Go.Proofs.YtkbhinfpndnnfaaDoor
open Go Go.Eng
set_option maxHeartbeats 1000000
set_option linter.unusedSimpArgs false
set_option linter.unusedVariables false
set_option maxRecDepth 20000
theorem cX : Tryd.prog.cellsOf 30 = 12 := by kernel_rfl
theorem cV : Tryd.prog.cellsOf 27 = 8 := by kernel_rfl
theorem cU : Tryd.prog.cellsOf 23 = 2 := by kernel_rfl
theorem cS : Tryd.prog.cellsOf 9 = 1 := by kernel_rfl
theorem cI : Tryd.prog.cellsOf 3 = 1 := by kernel_rfl
theorem cN : Tryd.prog.cellsOf 2 = 1 := by kernel_rfl
theorem cB : Tryd.prog.cellsOf 4 = 1 := by kernel_rfl
theorem cVs : Tryd.prog.cellsOf 24 = 1 := by kernel_rfl
theorem cXs : Tryd.prog.cellsOf 28 = 1 := by kernel_rfl
theorem cSs : Tryd.prog.cellsOf 25 = 1 := by kernel_rfl
theorem maxLen_eq : maxLen = 9223372036854775807 := by decide
theorem len2 {α : Type} {l : List α} (h : l.length = 2) : ∃ a b, l = [a, b] := by
 match l, h with | [a, b], _ => exact ⟨_, _, rfl⟩
theorem len5 {α : Type} {l : List α} (h : l.length = 5) : ∃ a b c d e, l = [a, b, c, d, e] := by
 match l, h with | [a, b, c, d, e], _ => exact ⟨_, _, _, _, _, rfl⟩
theorem len7 {α : Type} {l : List α} (h : l.length = 7) : ∃ a b c d e f g, l = [a, b, c, d, e, f, g] := by
 match l, h with | [a, b, c, d, e, f, g], _ => exact ⟨_, _, _, _, _, _, _, rfl⟩
section
variable {H : Type} {enc : TypeId × Value → H} {w : World} {spare : Nat → Bool} {held : Bool}
theorem open_str {fuel : Nat} {cs : List Value} {x : DataW H × List MemPlace} (h : DataW.trod enc Tryd.prog w 0 spare held fuel 9 cs = some x) : ∃ s : Str, cs = [.string (bs s)] ∧ s.length ≤ 9223372036854775807 := by
 obtain ⟨s, e0, e1, hs⟩ := DataW.trod_string Tryd.underlying9 h
 rw [maxLen_eq] at hs
 exact ⟨s.data.toList, e0, hs⟩
theorem open_strs {fuel : Nat} {cs : List Value} {x : DataW H × List MemPlace} (h : DataW.trod enc Tryd.prog w 0 spare held fuel 25 cs = some x) : ∃ v l, cs = [v] ∧ SlS (fun b => w.heap[b]?) v l := by
 obtain ⟨a, l, c, g, e, hl, hc, _, h1, h2⟩ := open_slice (R := fun cs (s : Str) => cs = [.string (bs s)] ∧ s.length ≤ 9223372036854775807) Tryd.underlying25 cS (by omega) h (fun m cs' y hm hy => by
  obtain ⟨s, h1, h2⟩ := open_str hy; exact ⟨s, h1, h2⟩)
 rw [maxLen_eq] at hl
 exact ⟨_, l, e, ⟨a, c, rfl, hc, hl, fun i s hs => by rw [← (h2 i s hs).1]; exact h1 i s hs, fun i s hs => (h2 i s hs).2⟩⟩
theorem open_uid {fuel : Nat} {cs : List Value} {x : DataW H × List MemPlace} (h : DataW.trod enc Tryd.prog w 0 spare held fuel 23 cs = some x) : ∃ ty id : Str, cs = [.string (bs ty), .string (bs id)] := by
 obtain ⟨xs, n, hf, hxe, hlen, hx, hfs⟩ := DataW.trod_struct Tryd.underlying23 h
 rw [cU] at hlen
 have hxs : xs.length = 2 := hx
 obtain ⟨x0, x1, rfl⟩ := len2 hxs
 obtain ⟨v0, v1, rfl⟩ := len2 hlen
 have f0 : DataW.trod enc Tryd.prog w 0 spare held n 9 (List.take (Tryd.prog.cellsOf 9) (List.drop 0 [v0, v1])) = some x0 := hfs 0 _ rfl
 have f1 : DataW.trod enc Tryd.prog w 0 spare held n 9 (List.take (Tryd.prog.cellsOf 9) (List.drop 1 [v0, v1])) = some x1 := hfs 1 _ rfl
 simp only [cS, List.drop_zero, List.drop_succ_cons, List.take_succ_cons, List.take_zero] at f0 f1
 obtain ⟨ty, e0, _⟩ := open_str f0
 obtain ⟨id, e1, _⟩ := open_str f1
 simp only [List.cons.injEq, and_true] at e0 e1
 exact ⟨ty, id, by rw [e0, e1]⟩
theorem open_val {fuel : Nat} {cs : List Value} {x : DataW H × List MemPlace} (h : DataW.trod enc Tryd.prog w 0 spare held fuel 27 cs = some x) :
  ∃ (v : LV) (u1 u2 : Value), cs = v.cells u1 u2 ∧ ((∃ a n c, u1 = .slice a n c) ∧ ∃ a n c, u2 = .slice a n c) ∧ I64 v.kind ∧ I64 v.n := by
 obtain ⟨xs, n, hf, hxe, hlen, hx, hfs⟩ := DataW.trod_struct Tryd.underlying27 h
 rw [cV] at hlen
 have hxs : xs.length = 7 := hx
 obtain ⟨x0, x1, x2, x3, x4, x5, x6, rfl⟩ := len7 hxs
 match cs, hlen with
 | [v0, v1, v2, v3, v4, v5, v6, v7], _ =>
  have f0 : DataW.trod enc Tryd.prog w 0 spare held n 3 (List.take (Tryd.prog.cellsOf 3) (List.drop 0 [v0, v1, v2, v3, v4, v5, v6, v7])) = some x0 := hfs 0 _ rfl
  have f1 : DataW.trod enc Tryd.prog w 0 spare held n 4 (List.take (Tryd.prog.cellsOf 4) (List.drop 1 [v0, v1, v2, v3, v4, v5, v6, v7])) = some x1 := hfs 1 _ rfl
  have f2 : DataW.trod enc Tryd.prog w 0 spare held n 2 (List.take (Tryd.prog.cellsOf 2) (List.drop 2 [v0, v1, v2, v3, v4, v5, v6, v7])) = some x2 := hfs 2 _ rfl
  have f3 : DataW.trod enc Tryd.prog w 0 spare held n 9 (List.take (Tryd.prog.cellsOf 9) (List.drop 3 [v0, v1, v2, v3, v4, v5, v6, v7])) = some x3 := hfs 3 _ rfl
  have f4 : DataW.trod enc Tryd.prog w 0 spare held n 23 (List.take (Tryd.prog.cellsOf 23) (List.drop 4 [v0, v1, v2, v3, v4, v5, v6, v7])) = some x4 := hfs 4 _ rfl
  have f5 : DataW.trod enc Tryd.prog w 0 spare held n 24 (List.take (Tryd.prog.cellsOf 24) (List.drop 6 [v0, v1, v2, v3, v4, v5, v6, v7])) = some x5 := hfs 5 _ rfl
  have f6 : DataW.trod enc Tryd.prog w 0 spare held n 25 (List.take (Tryd.prog.cellsOf 25) (List.drop 7 [v0, v1, v2, v3, v4, v5, v6, v7])) = some x6 := hfs 6 _ rfl
  simp only [cI, cB, cN, cS, cU, cVs, cSs, List.drop_zero, List.drop_succ_cons, List.take_succ_cons, List.take_zero] at f0 f1 f2 f3 f4 f5 f6
  obtain ⟨k, e0, d0, hk⟩ := DataW.trod_int Tryd.underlying3 f0
  obtain ⟨bo, e1, _⟩ := DataW.trod_bool Tryd.underlying4 f1
  obtain ⟨m, e2, d2, hm⟩ := DataW.trod_int Tryd.underlying2 f2
  obtain ⟨tx, e3, _⟩ := open_str f3
  obtain ⟨ty, id, e4⟩ := open_uid f4
  simp only [List.cons.injEq, and_true] at e0 e1 e2 e3 e4
  have g5 : ∃ a n c, v6 = .slice a n c := by
   rcases DataW.trod_slice Tryd.underlying24 f5 with ⟨hc, _⟩ | ⟨a, len, cap, _, _, _, _, hc, _⟩
   ·exact ⟨_, _, _, (List.cons.inj hc).1⟩
   ·exact ⟨_, _, _, (List.cons.inj hc).1⟩
  have g6 : ∃ a n c, v7 = .slice a n c := by
   rcases DataW.trod_slice Tryd.underlying25 f6 with ⟨hc, _⟩ | ⟨a, len, cap, _, _, _, _, hc, _⟩
   ·exact ⟨_, _, _, (List.cons.inj hc).1⟩
   ·exact ⟨_, _, _, (List.cons.inj hc).1⟩
  exact ⟨⟨k, bo, m, tx, ty, id⟩, v6, v7, by rw [e0, e1, e2, e3, e4.1, e4.2]; rfl, ⟨g5, g6⟩, wf_i64 hk, wf_i64 hm⟩
theorem open_ex : ∀ (fuel : Nat) (cs : List Value) (x : DataW H × List MemPlace), DataW.trod enc Tryd.prog w 0 spare held fuel 30 cs = some x → ∃ e, RepX (fun b => w.heap[b]?) cs e := by
 intro fuel
 induction fuel using Nat.strongRecOn with
 | _ fuel ih =>
  intro cs x h
  obtain ⟨xs, n, hf, hxe, hlen, hx, hfs⟩ := DataW.trod_struct Tryd.underlying30 h
  rw [cX] at hlen
  have hxs : xs.length = 5 := hx
  obtain ⟨x0, x1, x2, x3, x4, rfl⟩ := len5 hxs
  match cs, hlen with
  | [v0, v1, v2, v3, v4, v5, v6, v7, v8, v9, v10, v11], _ =>
   have f0 : DataW.trod enc Tryd.prog w 0 spare held n 3 (List.take (Tryd.prog.cellsOf 3) (List.drop 0 [v0, v1, v2, v3, v4, v5, v6, v7, v8, v9, v10, v11])) = some x0 := hfs 0 _ rfl
   have f1 : DataW.trod enc Tryd.prog w 0 spare held n 27 (List.take (Tryd.prog.cellsOf 27) (List.drop 1 [v0, v1, v2, v3, v4, v5, v6, v7, v8, v9, v10, v11])) = some x1 := hfs 1 _ rfl
   have f2 : DataW.trod enc Tryd.prog w 0 spare held n 9 (List.take (Tryd.prog.cellsOf 9) (List.drop 9 [v0, v1, v2, v3, v4, v5, v6, v7, v8, v9, v10, v11])) = some x2 := hfs 2 _ rfl
   have f3 : DataW.trod enc Tryd.prog w 0 spare held n 28 (List.take (Tryd.prog.cellsOf 28) (List.drop 10 [v0, v1, v2, v3, v4, v5, v6, v7, v8, v9, v10, v11])) = some x3 := hfs 3 _ rfl
   have f4 : DataW.trod enc Tryd.prog w 0 spare held n 25 (List.take (Tryd.prog.cellsOf 25) (List.drop 11 [v0, v1, v2, v3, v4, v5, v6, v7, v8, v9, v10, v11])) = some x4 := hfs 4 _ rfl
   simp only [cI, cV, cS, cXs, cSs, List.drop_zero, List.drop_succ_cons, List.take_succ_cons, List.take_zero] at f0 f1 f2 f3 f4
   obtain ⟨op, e0, _, hop⟩ := DataW.trod_int Tryd.underlying3 f0
   obtain ⟨v, u1, u2, e1, hu, hk, hn⟩ := open_val f1
   obtain ⟨nm, e2, _⟩ := open_str f2
   obtain ⟨a1, kids, c1, g1, e3, hl1, hc1, _, he1, he2⟩ := open_slice (R := RepX (fun b => w.heap[b]?)) Tryd.underlying28 cX (by omega) f3 (fun m cs' y hm hy => ih m (by omega) cs' y hy)
   obtain ⟨vn, names, e4, hN⟩ := open_strs f4
   rw [maxLen_eq] at hl1
   simp only [List.cons.injEq, and_true, LV.cells] at e0 e1 e2 e3 e4
   obtain ⟨q1, q2, q3, q4, q5, q6, q7, q8⟩ := e1
   refine ⟨.mk op v nm kids names, ?_⟩
   rw [e0, q1, q2, q3, q4, q5, q6, q7, q8, e2, e3, e4]
   exact .mk op v u1 u2 nm a1 c1 kids g1 vn names hu (wf_i64 hop) hk hn hl1 hc1 he1 he2 hN
end
end Go.Proofs.YtkbhinfpndnnfaaDoor
