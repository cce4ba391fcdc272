import Derived.Test.YtnnieekbklmgdaaDoorEng12
namespace Go.Eng
open Go
theorem bs_app (a b : List UInt8) : bs a ++ bs b = bs (a ++ b) := by
  have : (bs a ++ bs b).data.toList = a ++ b := by simp [bs]
  rw [bs_of (bs a ++ bs b), this]
theorem bs_size (l : List UInt8) : (bs l).size = l.length := rfl
theorem tdiv_nn {a b : Int} (h : 0 ≤ a) : a.tdiv b = a / b := Int.tdiv_eq_ediv_of_nonneg h
theorem tmod_nn {a b : Int} (h : 0 ≤ a) : a.tmod b = a % b := Int.tmod_eq_emod_of_nonneg h
theorem byteCells_nil : byteCells [] = [] := rfl
theorem byteCells_len (l : List UInt8) : (byteCells l).length = l.length := by simp [byteCells]
theorem byteCells_app (l m : List UInt8) : byteCells (l ++ m) = byteCells l ++ byteCells m := by simp [byteCells]
theorem byteCells_drop (l : List UInt8) (n : Nat) : (byteCells l).drop n = byteCells (l.drop n) := by simp [byteCells, List.map_drop]
theorem byteCells_take (l : List UInt8) (n : Nat) : (byteCells l).take n = byteCells (l.take n) := by simp [byteCells, List.map_take]
theorem u8s_byteCells : ∀ l : List UInt8, u8s (byteCells l) = some l
  | [] => rfl
  | c :: l => by
    have := u8s_byteCells l
    unfold byteCells at this ⊢
    simp only [List.map_cons, u8s, this, Option.map_some]
    congr 2
    simp
theorem bstrC_some (l : List Value) : bstrC (some l) = (u8s l).map fun u => (True, .string (bs u)) := rfl
theorem u8s_nil : u8s [] = some [] := rfl
theorem u8s_c (c : UInt8) (r : List Value) : u8s (.int .u8 (c.toNat : Int) :: r) = (u8s r).map (c :: ·) := by
  simp [u8s]
theorem u8s_i (n : Int) (r : List Value) : u8s (.int .u8 n :: r) = (u8s r).map (UInt8.ofNat n.toNat :: ·) := rfl
theorem ofNat_toNat (c : UInt8) : UInt8.ofNat (Int.toNat (c.toNat : Int)) = c := by simp
theorem ofNat_toNat' (c : UInt8) : UInt8.ofNat c.toNat = c := by simp
theorem bstrC_bytes (l : List UInt8) : bstrC (some (byteCells l)) = some (True, .string (bs l)) := by
  simp only [bstrC, u8s_byteCells, Option.map_some]
theorem wrap_u64_id {a : Int} (h : 0 ≤ a) (h2 : a < 18446744073709551616) : IntKind.u64.wrap a = a := by rw [wrap_u64]; omega
theorem wf_i64 {a : Int} (h : (Lit.int .i64 a).wf = true) : -9223372036854775808 ≤ a ∧ a ≤ 9223372036854775807 := by
  simp [Lit.wf, IntKind.min, IntKind.max, IntKind.bits, IntKind.signed] at h; omega
theorem wf_u64 {a : Int} (h : (Lit.int .u64 a).wf = true) : 0 ≤ a ∧ a < 18446744073709551616 := by
  simp [Lit.wf, IntKind.min, IntKind.max, IntKind.bits, IntKind.signed] at h; omega
theorem wf_u32 {a : Int} (h : (Lit.int .u32 a).wf = true) : 0 ≤ a ∧ a < 4294967296 := by
  simp [Lit.wf, IntKind.min, IntKind.max, IntKind.bits, IntKind.signed] at h; omega
theorem wf_u8 {a : Int} (h : (Lit.int .u8 a).wf = true) : 0 ≤ a ∧ a < 256 := by
  simp [Lit.wf, IntKind.min, IntKind.max, IntKind.bits, IntKind.signed] at h; omega
theorem ld_bytes (l : List UInt8) (t : List Value) (i : Nat) (h : i < l.length) : ((byteCells l ++ t).drop i).take 1 = [.int .u8 (l.getD i 0).toNat] := by
  rw [List.drop_append_of_le_length (by rw [byteCells_len]; omega), byteCells_drop, List.drop_eq_getElem_cons h, List.getD_eq_getElem?_getD, List.getElem?_eq_getElem h]
  rfl
end Go.Eng
