/- Lists as the walks take them: read, owned, cut (this claim's own lemmas). -/
import Derived.Test.YtnamanalacjhnaaOwn
namespace Go.Proofs.Ytnamanalacjhnaa.Wk
open Go.RowKit Go.Proofs.YtnamanalacjhnaaW.PrintWords Go.Proofs.Ytnamanalacjhnaa.Own
set_option linter.unusedVariables false
/-- A list that is read at A, n long, with room for c. -/
def Rd {α : Type} (d : Kd α) (w : World) (A : Option Addr) (n c : Nat) (l : List α) : Prop := l.length = n ∧ n ≤ c ∧ Kd.C d w A n l
section
variable {α : Type} {d : Kd α} {w w' : World} {A : Option Addr} {n c : Nat} {l : List α}
theorem Rd.step (h : Rd d w A n c l) (hb : Below w.heap.size w w') : Rd d w' A n c l := ⟨h.1, h.2.1, Kd.C_below h.2.2 hb⟩
theorem Rd.nil (d : Kd α) (w : World) : Rd d w none 0 0 [] := ⟨rfl, Nat.le_refl _, Kd.C_nil d w⟩
theorem Rd.of_R {e base : Nat} {ok : Nat → Prop} {v : Value} (h : Kd.R d e w base ok v l) : ∃ A n c, v = .slice A n c ∧ Rd d w A n c l ∧ Kd.R d e w base ok (.slice A n c) l := by
  obtain ⟨A, c, rfl, h1, h2⟩ := Kd.R_reads h
  exact ⟨A, l.length, c, rfl, ⟨rfl, h1, h2⟩, h⟩
theorem Rd.of_own {e base : Nat} {ok : Nat → Prop} (h : Kd.R d e w base ok (.slice A n c) l) : Rd d w A n c l := by
  obtain ⟨A', n', c', e1, h1, -⟩ := Rd.of_R h
  injection e1 with e2 e3 e4
  subst e2 e3 e4
  exact h1
theorem Rd.take (h : Rd d w A n c l) (m : Nat) (hm : m ≤ n) : Rd d w A m c (l.take m) := by
  obtain ⟨rfl, a2, a3⟩ := h
  have h3 := Kd.C_take a3 hm
  have hl : (l.take m).length = m := by rw [List.length_take]; omega
  rw [hl] at h3
  exact ⟨hl, by omega, h3⟩
/-- 'x[:m]'. -/
theorem Rd.to {P : Program} {t e : TypeId} {z : Value} {sz b : Nat} (ht : P.underlying t = some (.slice e)) (hi : (P.info? e).map (fun i => (i.zero, i.size, i.bytes)) = some (some z, sz, b)) (kh : IntKind) (A : Option Addr) (n c m : Nat) (hm : m ≤ n) (hc : n ≤ c) :
    ∀ W : World, (Instr.slice t (.slice A n c) none (some (.int kh (m : Int))) none).run P W = .ok (.slice A m c) W := by
  obtain ⟨i0, hi0, _, _, _⟩ := info_parts hi
  have h := cut_to (P := P) t e kh ht hi0 A n c (m : Int) (by omega) (by omega) hc
  rwa [Int.toNat_natCast] at h
/-- 'x[m:]'. -/
theorem Rd.from {P : Program} {t e : TypeId} {z : Value} {b : Nat} (d : Kd α) (ht : P.underlying t = some (.slice e)) (hi : (P.info? e).map (fun i => (i.zero, i.size, i.bytes)) = some (some z, d.sz, b)) (kl : IntKind) (A : Option Addr) (n c m : Nat) (hm : m ≤ n) (hc : n ≤ c) :
    ∃ A', (∀ W : World, (Instr.slice t (.slice A n c) (some (.int kl (m : Int))) none none).run P W = .ok (.slice A' (n - m) (c - m)) W) ∧ ∀ (w : World) (l : List α), Rd d w A n c l → Rd d w A' (n - m) (c - m) (l.drop m) := by
  obtain ⟨i0, hi0, _, hsz, _⟩ := info_parts hi
  have h := cut_from (P := P) t e kl ht hi0 d.sz hsz A n c (m : Int) (by omega) (by omega)
  rw [Int.toNat_natCast] at h
  refine ⟨_, h, fun w l hr => ?_⟩
  obtain ⟨rfl, a2, a3⟩ := hr
  have h3 := Kd.C_drop a3 hm a2
  rw [List.length_drop] at h3
  exact ⟨List.length_drop, by omega, h3⟩
/-- 'x[lo:hi]'. -/
theorem Rd.mid {P : Program} {t e : TypeId} {z : Value} {b : Nat} (d : Kd α) (ht : P.underlying t = some (.slice e)) (hi : (P.info? e).map (fun i => (i.zero, i.size, i.bytes)) = some (some z, d.sz, b)) (kl kh : IntKind) (A : Option Addr) (n c lo hi' : Nat) (h1 : lo ≤ hi') (h2 : hi' ≤ n) (hc : n ≤ c) :
    ∃ A', (∀ W : World, (Instr.slice t (.slice A n c) (some (.int kl (lo : Int))) (some (.int kh (hi' : Int))) none).run P W = .ok (.slice A' (hi' - lo) (c - lo)) W) ∧ ∀ (w : World) (l : List α), Rd d w A n c l → Rd d w A' (hi' - lo) (c - lo) ((l.take hi').drop lo) := by
  obtain ⟨i0, hi0, _, hsz, _⟩ := info_parts hi
  have h := cut_mid (P := P) t e kl kh ht hi0 d.sz hsz A n c (lo : Int) (hi' : Int) (by omega) (by omega) (by omega) hc
  rw [Int.toNat_natCast, Int.toNat_natCast] at h
  refine ⟨_, h, fun w l hr => ?_⟩
  obtain ⟨rfl, a2, a3⟩ := hr
  have h3 := Kd.C_mid a3 h1 h2 a2
  have hl : ((l.take hi').drop lo).length = hi' - lo := by rw [List.length_drop, List.length_take]; omega
  rw [hl] at h3
  exact ⟨hl, by omega, h3⟩
end
/-- What a call that makes a list answers: the list, told apart; older memory stays. -/
def Made {α : Type} (d : Kd α) (t : Nat) (w : World) (spec : List α) (e : Ending) (w' : World) : Prop := ∃ A n c l, e = .returned (.slice A n c) ∧ l = spec ∧ Rd d w' A n c l ∧ Kd.R d t w' w.heap.size (fun _ => True) (.slice A n c) l ∧ Below w.heap.size w w'
theorem Made.of {α : Type} {d : Kd α} {t : Nat} {w : World} {spec : List α} {e : Ending} {w' : World} (h : ∃ v0_ : Value, e = .returned (v0_) ∧ Kd.R d t w' w.heap.size (fun _ => True) v0_ spec ∧ Below w.heap.size w w') : Made d t w spec e w' := by
  obtain ⟨v, rfl, h1, h2⟩ := h
  obtain ⟨A, n, c, rfl, h3, h4⟩ := Rd.of_R h1
  exact ⟨A, n, c, spec, rfl, rfl, h3, h4, h2⟩
def Says (w : World) (b : Bool) (e : Ending) (w' : World) : Prop := e = .returned (.bool b) ∧ Below w.heap.size w w'
theorem Says.of {w : World} {b : Bool} {e : Ending} {w' : World} (h : e = .returned (.bool b) ∧ Drawn0 w w') : Says w b e w' := ⟨h.1, h.2.below⟩
def Ow {α : Type} (d : Kd α) (t base : Nat) (w : World) (A : Option Addr) (n c : Nat) (l : List α) : Prop := l.length = n ∧ Kd.R d t w base (fun _ => True) (.slice A n c) l
theorem Ow.step {α : Type} {d : Kd α} {t base : Nat} {w w' : World} {A : Option Addr} {n c : Nat} {l : List α} (h : Ow d t base w A n c l) (hb : Below w.heap.size w w') : Ow d t base w' A n c l := ⟨h.1, Kd.R_below h.2 hb⟩
theorem Ow.rd {α : Type} {d : Kd α} {t base : Nat} {w : World} {A : Option Addr} {n c : Nat} {l : List α} (h : Ow d t base w A n c l) : Rd d w A n c l := Rd.of_own h.2
/-- Older memory stays, from the law's begin on. -/
def Bel (w W : World) : Prop := Below w.heap.size w W
theorem Bel.step {w W W' : World} (h : Bel w W) (hb : Below W.heap.size W W') : Bel w W' := below_step h hb
/-- What a row that grows leaves of another world's memory: all of it, but its own block. -/
theorem below_grown_none {W W' : World} (h : W.grownBy W' none) : Below W.heap.size W W' := ⟨h.os, h.tape, h.output, h.size, fun k hk => h.block k hk (by simp)⟩
def slen (v : Value) : Nat := match v with | .slice _ n _ => n | _ => 0
theorem slen_slice (A : Option Addr) (n c : Nat) : slen (.slice A n c) = n := rfl
end Go.Proofs.Ytnamanalacjhnaa.Wk
