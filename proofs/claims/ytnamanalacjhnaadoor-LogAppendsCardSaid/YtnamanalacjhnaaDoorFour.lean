/- A sum's four bytes (this claim's own lemmas). -/
import Derived.Test.YtnamanalacjhnaaDoorGSum
namespace Go.Proofs.YtnamanalacjhnaaDoor.G
open Go.RowKit Go.Proofs.YtnamanalacjhnaaDoorW.PrintWords Go.Proofs.YtnamanalacjhnaaDoor.Own
set_option linter.unusedVariables false
def fourL (x : Int) : List Int := [x % 256, x / 256 % 256, x / 65536 % 256, x / 16777216]
theorem bytes_four {x : Int} (h : U32 x) : Bytes (fourL x) := by
  obtain ⟨h0, h1⟩ := h
  intro y hy
  simp only [fourL, List.mem_cons, List.not_mem_nil, or_false] at hy
  rcases hy with rfl | rfl | rfl | rfl <;> omega
theorem four_eq {x : Int} (h : U32 x) : ([x % 256, (x / 256) % 256, (x / 65536) % 256, (x / 16777216) % 256] : List Int) = fourL x := by
  obtain ⟨h0, h1⟩ := h
  unfold fourL
  rw [show x / 16777216 % 256 = x / 16777216 by omega]
theorem bytes_app {l m : List Int} (hl : Bytes l) (hm : Bytes m) : Bytes (l ++ m) := fun y hy => by
  rcases List.mem_append.1 hy with h | h
  · exact hl y h
  · exact hm y h
theorem four_len (x : Int) : (fourL x).length = 4 := rfl
theorem sumF_range {l : List Int} (hl : Bytes l) : U32 (sumF l) := u32_xor_range (by simp [U32]) (sumf_range hl)
theorem bytes_take {l : List Int} (h : Bytes l) (n : Nat) : Bytes (l.take n) := fun y hy => h y (List.mem_of_mem_take hy)
theorem bytes_drop {l : List Int} (h : Bytes l) (n : Nat) : Bytes (l.drop n) := fun y hy => h y (List.mem_of_mem_drop hy)
end Go.Proofs.YtnamanalacjhnaaDoor.G
