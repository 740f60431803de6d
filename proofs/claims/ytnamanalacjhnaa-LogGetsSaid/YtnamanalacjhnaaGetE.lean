/- screeref7.Get answers as log.Get (plain functions). -/
import Derived.Test.YtnamanalacjhnaaGetP
namespace Go.Proofs.Ytnamanalacjhnaa.Gt
open Go.RowKit Go.Proofs.YtnamanalacjhnaaW.PrintWords Go.Proofs.Ytnamanalacjhnaa.Own Go.Proofs.Ytnamanalacjhnaa.Wk Go.Proofs.Ytnamanalacjhnaa.QGt
set_option linter.unusedVariables false
theorem w64 (n : Nat) (h : n < 4294967296) : wrap64 (n : Int) = (n : Int) := by unfold wrap64; omega
theorem refText_eq (l : List Int) (m : Int) (hb : Bytes l) (hl : l.length ≤ 1073741824) (h0 : 0 ≤ m) (h1 : m < 1000) : screeref2_Text.f l m = some (textL l m) := by
  unfold screeref2_Text.f
  rw [if_pos ⟨okB_iff.2 hb, by omega, by omega, by omega⟩]
theorem refUint_eq (l : List Int) (hb : Bytes l) (hl : l.length ≤ 1073741824) : screeref2_Uint.f l = some (uintL l) := by
  unfold screeref2_Uint.f
  rw [if_pos ⟨okB_iff.2 hb, by omega⟩]
theorem bad_text (m : Int) {s : St} (h : s.2 ≠ 0) : textS m s = ((⟨#[]⟩ : ByteArray), s) := by unfold textS; rw [if_pos h]
theorem bad_key {s : St} (h : s.2 ≠ 0) : keyS s = ((⟨#[]⟩ : ByteArray), s) := by
  unfold keyS
  rw [bad_text 64 h]
  simp only
  rw [if_neg (fun h' => h h'.1)]
theorem bad_write {s s' : St} (h : delS s = (false, s')) (h' : s'.2 ≠ 0) : (writeS s).2 = s' := by
  unfold writeS
  rw [h]
  simp only [bad_key h', bad_text 512 h']
  rfl
theorem write_eq (l : List Int) (hb : Bytes l) (hl : l.length ≤ 1073741824) :
    (∃ n : Nat, n ≤ l.length ∧ screeref7_write.f l = some ((writeS (l, 0)).1.f0, (writeS (l, 0)).1.f1, (writeS (l, 0)).1.f2, (n : Int), 0) ∧ (writeS (l, 0)).2 = (l.drop n, 0)) ∨
    ((writeS (l, 0)).2.2 ≠ 0 ∧ screeref7_write.f l = some ((⟨#[]⟩ : ByteArray), false, (⟨#[]⟩ : ByteArray), 0, ((writeS (l, 0)).2.2 : Int))) := by
  by_cases c0 : l.length = 0
  · have hd : delS (l, 0) = (false, (l, 20)) := by unfold delS; rw [if_neg (by simp), if_pos c0]
    right
    rw [bad_write hd (by simp)]
    refine ⟨by simp, ?_⟩
    unfold screeref7_write.f
    rw [if_pos (by omega)]
    rfl
  by_cases c1 : rd l 0 > 1
  · have hd : delS (l, 0) = (false, (l, 21)) := by unfold delS; rw [if_neg (by simp), if_neg c0, if_pos c1]
    right
    rw [bad_write hd (by simp)]
    refine ⟨by simp, ?_⟩
    unfold screeref7_write.f
    rw [if_neg (by omega), if_pos (by omega), if_pos c1]
    rfl
  have hd : delS (l, 0) = (rd l 0 == 1, (l.drop 1, 0)) := by unfold delS; rw [if_neg (by simp), if_neg c0, if_neg c1]
  have hb1 := bytes_drop 1 hb
  have hl1 : (l.drop 1).length = l.length - 1 := List.length_drop
  obtain ⟨b, K, e, hT, hK⟩ := textL_form (l.drop 1) 64
  have hS : textS 64 (l.drop 1, 0) = (b, ((l.drop 1).drop K, e)) := by unfold textS; rw [if_neg (by simp)]; simp only [hT]; simp
  have hW : screeref7_write.f l = (screeref2_Text.f (l.drop 1) 64).bind fun bt217 => (if bt217.2.2 = 0 then (if bt217.1.toList = ([] : List UInt8) then (some ((⟨#[]⟩ : ByteArray), false, (⟨#[]⟩ : ByteArray), 0, 21)) else (if ((rd l 0) = 1) then (some (bt217.1, ((rd l 0) == 1), (⟨#[]⟩ : ByteArray), wrap64 (bt217.2.1 + 1), 0)) else (if 0 ≤ (wrap64 (bt217.2.1 + 1)) then (if (wrap64 (bt217.2.1 + 1)) ≤ (l.length : Int) then ((screeref2_Text.f (l.drop ((wrap64 (bt217.2.1 + 1)) : Int).toNat) 512).bind fun bt223 => (if bt223.2.2 = 0 then (some (bt217.1, ((rd l 0) == 1), bt223.1, wrap64 ((wrap64 (bt217.2.1 + 1)) + bt223.2.1), 0)) else (some ((⟨#[]⟩ : ByteArray), false, (⟨#[]⟩ : ByteArray), 0, bt223.2.2)))) else (none)) else (none)))) else (some ((⟨#[]⟩ : ByteArray), false, (⟨#[]⟩ : ByteArray), 0, bt217.2.2))) := by
    unfold screeref7_write.f
    rw [if_neg (by omega), if_pos (by omega), if_neg c1, if_pos (by omega)]
  rw [refText_eq _ 64 hb1 (by omega) (by decide) (by decide), hT, Option.bind_some] at hW
  simp only at hW
  have hdr : (l.drop 1).drop K = l.drop (K + 1) := by rw [List.drop_drop, Nat.add_comm]
  by_cases ce : e = 0
  · rw [if_pos (by omega)] at hW
    by_cases cb : b.toList = ([] : List UInt8)
    · rw [if_pos cb] at hW
      have hk : keyS (l.drop 1, 0) = (b, ((l.drop 1).drop K, 21)) := by unfold keyS; rw [hS]; simp only; rw [if_pos ⟨ce, cb⟩]
      right
      have hw : (writeS (l, 0)).2 = ((l.drop 1).drop K, 21) := by
        unfold writeS
        rw [hd]
        simp only [hk, bad_text 512 (s := ((l.drop 1).drop K, 21)) (by simp)]
        split <;> rfl
      rw [hw]
      exact ⟨by simp, hW⟩
    · rw [if_neg cb] at hW
      have hk : keyS (l.drop 1, 0) = (b, (l.drop (K + 1), 0)) := by unfold keyS; rw [hS]; simp only; rw [if_neg (fun h => cb h.2), hdr, ce]
      have hwr : wrap64 ((K : Int) + 1) = ((K + 1 : Nat) : Int) := by rw [show ((K : Int) + 1) = ((K + 1 : Nat) : Int) by omega]; exact w64 _ (by omega)
      by_cases c2 : rd l 0 = 1
      · rw [if_pos c2, hwr] at hW
        left
        have hw : writeS (l, 0) = (⟨b, true, (⟨#[]⟩ : ByteArray)⟩, (l.drop (K + 1), 0)) := by
          unfold writeS
          rw [hd]
          simp only [hk, show (rd l 0 == 1) = true from beq_iff_eq.2 c2]
          rfl
        refine ⟨K + 1, by omega, ?_, by rw [hw]⟩
        rw [hW, hw, show (rd l 0 == 1) = true from beq_iff_eq.2 c2]
      · have c2' : (rd l 0 == 1) = false := beq_eq_false_iff_ne.2 c2
        rw [if_neg c2, hwr, if_pos (by omega), if_pos (by omega), Int.toNat_natCast, refText_eq _ 512 (bytes_drop _ hb) (by rw [List.length_drop]; omega) (by decide) (by decide)] at hW
        obtain ⟨b2, K2, e2, hT2, hK2⟩ := textL_form (l.drop (K + 1)) 512
        rw [hT2, Option.bind_some] at hW
        simp only at hW
        have hS2 : textS 512 (l.drop (K + 1), 0) = (b2, ((l.drop (K + 1)).drop K2, e2)) := by unfold textS; rw [if_neg (by simp)]; simp only [hT2]; simp
        have hw : writeS (l, 0) = (⟨b, false, b2⟩, ((l.drop (K + 1)).drop K2, e2)) := by
          unfold writeS
          rw [hd]
          simp only [hk, c2', hS2]
          rfl
        by_cases ce2 : e2 = 0
        · rw [if_pos (by omega)] at hW
          left
          have hl2 : K2 ≤ l.length - (K + 1) := by rw [List.length_drop] at hK2; exact hK2
          refine ⟨K + 1 + K2, by omega, ?_, by rw [hw, ce2, List.drop_drop]⟩
          rw [hW, hw, c2', show (((K + 1 : Nat) : Int) + (K2 : Int)) = ((K + 1 + K2 : Nat) : Int) by omega, w64 _ (by omega)]
        · rw [if_neg (by omega)] at hW
          right
          rw [hw]
          exact ⟨ce2, hW⟩
  · rw [if_neg (by omega)] at hW
    have hk : keyS (l.drop 1, 0) = (b, ((l.drop 1).drop K, e)) := by unfold keyS; rw [hS]; simp only; rw [if_neg (fun h => ce h.1)]
    right
    have hw : (writeS (l, 0)).2 = ((l.drop 1).drop K, e) := by
      unfold writeS
      rw [hd]
      simp only [hk, bad_text 512 (s := ((l.drop 1).drop K, e)) ce]
      split <;> rfl
    rw [hw]
    exact ⟨ce, hW⟩
end Go.Proofs.Ytnamanalacjhnaa.Gt
