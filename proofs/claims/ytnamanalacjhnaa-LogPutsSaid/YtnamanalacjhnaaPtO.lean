/- Groups of batches, and lists of bytes, that came in (this claim's own lemmas). -/
import Derived.Test.YtnamanalacjhnaaOpn
import Derived.Test.YtnamanalacjhnaaQPtx0
namespace Go.Proofs.Ytnamanalacjhnaa
namespace Opn
open Go.ChangeShapes Go.WideShapes Go.ChangeAt Go.RowKit
open YtnamanalacjhnaaW.PrintWords
set_option linter.unusedVariables false
section
variable {H : Type} {enc : TypeId × Value → H} {W : World}
abbrev Wr := QPt.S64
abbrev kW : Kd Wr := QPt.k64
def wtW (x : Wr) : Nat := x.f0.size + x.f2.size + 4
def wtB (l : List Wr) : Nat := (l.map wtW).sum + 1
def wtG (g : List (List Wr)) : Nat := (g.map wtB).sum + 1
def GW (x : Wr) : Prop := x.f0.size ≤ 140737488351232 ∧ x.f2.size ≤ 140737488351232
theorem opens_write : Opens enc Try.prog W 64 kW GW wtW :=
  opens_sbs (mk := fun a b c => ⟨a, b, c⟩) Try.underlying64 (by kernel_rfl) (by kernel_rfl) Try.underlying9 Try.underlying4 Try.underlying9 (fun a b c => QPt.k64_mk W ⟨a, b, c⟩) (fun a b c h0 h2 => ⟨h0, h2⟩) (fun a b c => by show a.size + c.size + 4 ≤ _; omega)
theorem opens_writes : Opens enc Try.prog W 62 (Kd.slice 64 kW) (fun l => l.length * Try.prog.bytesOf 64 ≤ 140737488351232 ∧ ∀ x ∈ l, GW x) wtB := opens_slice Try.underlying62 (by kernel_rfl) opens_write
theorem opens_groups : Opens enc Try.prog W 24 (Kd.slice 62 (Kd.slice 64 kW)) (fun g => g.length * Try.prog.bytesOf 62 ≤ 140737488351232 ∧ ∀ l ∈ g, l.length * Try.prog.bytesOf 64 ≤ 140737488351232 ∧ ∀ x ∈ l, GW x) wtG := opens_slice Try.underlying24 (by kernel_rfl) opens_writes
theorem bytesW : Try.prog.bytesOf 64 = 40 := by kernel_rfl
theorem bytesWs : Try.prog.bytesOf 62 = 24 := by kernel_rfl
def GG (g : List (List Wr)) : Prop := g.length ≤ 140737488351232 ∧ (∀ l ∈ g, l.length ≤ 140737488351232) ∧ ∀ l ∈ g, ∀ x ∈ l, GW x
theorem groups_arg {base : Nat} {held : Bool} {a : Option Addr} {len cap : Nat} {da : DataW H} {ps : List MemPlace} {ts : List TypeId} {ds : List (DataW H)} {j : Nat}
    (hsz : (DataW.weightsEach Try.prog ts ds).all (· ≤ reachBytes) = true) (hts : ts[j]? = some 24) (hds : ds[j]? = some da) (h : DataW.Trod enc Try.prog W base (fun _ => true) held 24 (.slice a len cap) da ps) :
    ∃ l : List (List Wr), len = l.length ∧ (Kd.slice 64 kW).C W a l.length l ∧ l.length ≤ cap ∧ GG l ∧ wtG l ≤ Rows.uptoBulk da := by
  obtain ⟨l, h1, h2, h3, ⟨h4, h5⟩, h6⟩ := slice_arg opens_groups hsz hts hds h
  rw [bytesWs] at h4
  refine ⟨l, h1, h2, h3, ⟨by omega, fun r hr => ?_, fun r hr => (h5 r hr).2⟩, h6⟩
  have := (h5 r hr).1
  rw [bytesW] at this
  omega
def wtR (l : List Int) : Nat := (l.map fun _ => 1).sum + 1
def wtRs (g : List (List Int)) : Nat := (g.map wtR).sum + 1
theorem opens_bytes : Opens enc Try.prog W 45 (Kd.slice 5 (Kd.int .u8)) (fun l => l.length * Try.prog.bytesOf 5 ≤ 140737488351232 ∧ ∀ x ∈ l, (Lit.int .u8 x).wf = true) wtR := opens_slice Try.underlying45 (by kernel_rfl) (opens_int Try.underlying5)
theorem opens_chunks : Opens enc Try.prog W 27 (Kd.slice 45 (Kd.slice 5 (Kd.int .u8))) (fun g => g.length * Try.prog.bytesOf 45 ≤ 140737488351232 ∧ ∀ l ∈ g, l.length * Try.prog.bytesOf 5 ≤ 140737488351232 ∧ ∀ x ∈ l, (Lit.int .u8 x).wf = true) wtRs := opens_slice Try.underlying27 (by kernel_rfl) opens_bytes
theorem bytesU : Try.prog.bytesOf 5 = 1 := by kernel_rfl
theorem bytesUs : Try.prog.bytesOf 45 = 24 := by kernel_rfl
def GR (g : List (List Int)) : Prop := g.length ≤ 5864062014634 ∧ (∀ l ∈ g, l.length ≤ 140737488351232) ∧ ∀ l ∈ g, ∀ x ∈ l, (Lit.int .u8 x).wf = true
theorem chunks_arg {base : Nat} {held : Bool} {a : Option Addr} {len cap : Nat} {da : DataW H} {ps : List MemPlace} {ts : List TypeId} {ds : List (DataW H)} {j : Nat}
    (hsz : (DataW.weightsEach Try.prog ts ds).all (· ≤ reachBytes) = true) (hts : ts[j]? = some 27) (hds : ds[j]? = some da) (h : DataW.Trod enc Try.prog W base (fun _ => true) held 27 (.slice a len cap) da ps) :
    ∃ l : List (List Int), len = l.length ∧ (Kd.slice 5 (Kd.int .u8)).C W a l.length l ∧ l.length ≤ cap ∧ GR l ∧ wtRs l ≤ Rows.uptoBulk da := by
  obtain ⟨l, h1, h2, h3, ⟨h4, h5⟩, h6⟩ := slice_arg opens_chunks hsz hts hds h
  rw [bytesUs] at h4
  refine ⟨l, h1, h2, h3, ⟨by omega, fun r hr => ?_, fun r hr => (h5 r hr).2⟩, h6⟩
  have := (h5 r hr).1
  rw [bytesU] at this
  omega
end
end Opn
end Go.Proofs.Ytnamanalacjhnaa
