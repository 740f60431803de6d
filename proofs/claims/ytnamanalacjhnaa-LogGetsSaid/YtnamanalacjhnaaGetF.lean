/- screeref7.Get answers as log.Get: its loops (plain functions). -/
import Derived.Test.YtnamanalacjhnaaGetE
import Derived.Test.YtnamanalacjhnaaGetG
namespace Go.Proofs.Ytnamanalacjhnaa.Gt
open Go.RowKit Go.Proofs.YtnamanalacjhnaaW.PrintWords Go.Proofs.Ytnamanalacjhnaa.Own Go.Proofs.Ytnamanalacjhnaa.Wk Go.Proofs.Ytnamanalacjhnaa.QGt
set_option linter.unusedVariables false
theorem batches_bad (f n : Nat) {s : St} (h : s.2 ≠ 0) : batchesS f n s = ([], s) := by
  cases f with
  | zero => rfl
  | succ f => unfold batchesS; rw [if_pos (.inr h)]
theorem fin_bad (a : Nat) (g : List (List Wr)) {s : St} (h : s.2 ≠ 0) : finS a g s = (0, [], (s.2 : Int)) := by unfold finS; rw [if_pos h]
theorem num_form (l : List Int) (hb : Bytes l) : ∃ n k e : Nat, uintL l = ((n : Int), (k : Int), (e : Int)) ∧ numS (l, 0) = (n, (l.drop k, e)) ∧ n < 18446744073709551616 ∧ k ≤ l.length := by
  have h := uintN_spec l hb
  exact ⟨_, _, _, rfl, by unfold numS; rw [if_neg (by simp)], h.1, h.2.1⟩
theorem l1_eq (l : List Int) (hb : Bytes l) (hl : l.length ≤ 1073741824) (a n : Nat) (gr : List (List Wr)) (hg : gr.length ≤ 1073741825) (T i cnt : Nat) (hc : cnt ≤ 16) : ∀ (m at_ j : Nat) (pre : List Wr), j + m = cnt → pre.length = j → at_ ≤ l.length →
    (∃ at' : Nat, at' ≤ l.length ∧ (writesS m (l.drop at_, 0)).2 = (l.drop at', 0) ∧ ∀ k R, screeref7_Get.l0 k l (a : Int) (at' : Int) (n : Int) (gr ++ [pre ++ (writesS m (l.drop at_, 0)).1]) (IntKind.u64.wrap ((T : Int) + (cnt : Int))) (IntKind.u64.wrap ((i : Int) + 1)) = some R → ∃ k', screeref7_Get.l1 k' l (a : Int) (at_ : Int) (n : Int) gr (T : Int) (i : Int) (cnt : Int) pre (j : Int) = some R) ∨
    ((writesS m (l.drop at_, 0)).2.2 ≠ 0 ∧ ∃ k', screeref7_Get.l1 k' l (a : Int) (at_ : Int) (n : Int) gr (T : Int) (i : Int) (cnt : Int) pre (j : Int) = some (0, [], ((writesS m (l.drop at_, 0)).2.2 : Int))) := by
  intro m
  induction m with
  | zero =>
    intro at_ j pre hj hp ha
    left
    refine ⟨at_, ha, rfl, fun k R hR => ⟨k + 1, ?_⟩⟩
    unfold screeref7_Get.l1
    rw [if_neg (by omega), if_pos (by omega)]
    simpa [writesS] using hR
  | succ m ih =>
    intro at_ j pre hj hp ha
    have hw : writesS (m + 1) (l.drop at_, 0) = ((writeS (l.drop at_, 0)).1 :: (writesS m (writeS (l.drop at_, 0)).2).1, (writesS m (writeS (l.drop at_, 0)).2).2) := by
      rw [writesS, if_neg (by simp)]
    have hld : (l.drop at_).length = l.length - at_ := List.length_drop
    have hstep : ∀ k x, screeref7_write.f (l.drop at_) = some x → screeref7_Get.l1 (k + 1) l (a : Int) (at_ : Int) (n : Int) gr (T : Int) (i : Int) (cnt : Int) pre (j : Int) = (if x.2.2.2.2 = 0 then (if pre.length < 3518437208883 then (screeref7_Get.l1 k l (a : Int) (wrap64 ((at_ : Int) + x.2.2.2.1)) (n : Int) gr (T : Int) (i : Int) (cnt : Int) (pre ++ [(⟨x.1, x.2.1, x.2.2.1⟩ : Wr)]) (IntKind.u64.wrap ((j : Int) + 1))) else (none)) else (some (0, ([] : List (List Wr)), x.2.2.2.2))) := by
      intro k x hx
      rw [screeref7_Get.l1, if_pos (by omega), if_pos (by omega), if_pos (by omega), Int.toNat_natCast, hx, Option.bind_some]
    rcases write_eq (l.drop at_) (bytes_drop _ hb) (by omega) with ⟨c, hcl, hf, hs⟩ | ⟨he, hf⟩
    · have hs2 : (l.drop at_).drop c = l.drop (at_ + c) := by rw [List.drop_drop]
      rw [hs2] at hs
      have hnext : ∀ k, screeref7_Get.l1 (k + 1) l (a : Int) (at_ : Int) (n : Int) gr (T : Int) (i : Int) (cnt : Int) pre (j : Int) = screeref7_Get.l1 k l (a : Int) ((at_ + c : Nat) : Int) (n : Int) gr (T : Int) (i : Int) (cnt : Int) (pre ++ [(writeS (l.drop at_, 0)).1]) ((j + 1 : Nat) : Int) := by
        intro k
        rw [hstep k _ hf]
        simp only
        rw [if_pos trivial, if_pos (by omega), show ((at_ : Int) + (c : Int)) = ((at_ + c : Nat) : Int) by omega, w64 _ (by omega), show ((j : Int) + 1) = ((j + 1 : Nat) : Int) by omega, u64_nat (by omega)]
      rw [hw]
      rw [hs]
      simp only
      rcases ih (at_ + c) (j + 1) (pre ++ [(writeS (l.drop at_, 0)).1]) (by omega) (by simp [hp]) (by omega) with ⟨at', h1, h2, h3⟩ | ⟨h1, k', h2⟩
      · left
        refine ⟨at', h1, h2, fun k R hR => ?_⟩
        obtain ⟨k', hk'⟩ := h3 k R (by rw [List.append_assoc]; exact hR)
        exact ⟨k' + 1, by rw [hnext]; exact hk'⟩
      · right
        exact ⟨h1, k' + 1, by rw [hnext]; exact h2⟩
    · right
      rw [hw]
      simp only
      rw [writesS_bad m he]
      refine ⟨he, 1, ?_⟩
      rw [hstep 0 _ hf]
      simp only
      rw [if_neg (by omega)]
theorem l0_eq (l : List Int) (hb : Bytes l) (hl : l.length ≤ 1073741824) (a n : Nat) (ha : a < 18446744073709551616) (hn : n < 18446744073709551616) : ∀ (f at_ i T : Nat) (gr : List (List Wr)), at_ ≤ l.length → i ≤ at_ → i ≤ n → l.length - at_ < f → T = total gr → T ≤ 16 * i → gr.length = i →
    ∃ k, screeref7_Get.l0 k l (a : Int) (at_ : Int) (n : Int) gr (T : Int) (i : Int) = some (finS a (gr ++ (batchesS f (n - i) (l.drop at_, 0)).1) (batchesS f (n - i) (l.drop at_, 0)).2) := by
  intro f
  induction f with
  | zero => intro at_ i T gr _ _ _ h; omega
  | succ f ih =>
    intro at_ i T gr h1 h2 h3 h4 h5 h6 h7
    have hld : (l.drop at_).length = l.length - at_ := List.length_drop
    have hbd := bytes_drop at_ hb
    by_cases hi : i < n
    · have hB : batchesS (f + 1) (n - i) (l.drop at_, 0) = ((batchS (l.drop at_, 0)).1 :: (batchesS f (n - i - 1) (batchS (l.drop at_, 0)).2).1, (batchesS f (n - i - 1) (batchS (l.drop at_, 0)).2).2) := by
        rw [batchesS, if_neg (by simp; omega)]
      obtain ⟨cnt, c, e, hU, hN, hcn, hck⟩ := num_form (l.drop at_) hbd
      have hs2 : (l.drop at_).drop c = l.drop (at_ + c) := by rw [List.drop_drop]
      rw [hs2] at hN
      have hstep : ∀ k, screeref7_Get.l0 (k + 1) l (a : Int) (at_ : Int) (n : Int) gr (T : Int) (i : Int) = (if (e : Int) = 0 then (if (cnt : Int) > 16 then (some (0, ([] : List (List Wr)), 22)) else (screeref7_Get.l1 k l (a : Int) (wrap64 ((at_ : Int) + (c : Int))) (n : Int) gr (T : Int) (i : Int) (cnt : Int) ([] : List Wr) 0)) else (some (0, ([] : List (List Wr)), (e : Int)))) := by
        intro k
        rw [screeref7_Get.l0, if_pos (by omega), if_pos (by omega), if_pos (by omega), Int.toNat_natCast, refUint_eq _ hbd (by omega), hU, Option.bind_some]
      rw [hB]
      by_cases he : e = 0
      · subst he
        by_cases hc : cnt > 16
        · have hC : countS (l.drop at_, 0) = (cnt, (l.drop (at_ + c), 22)) := by unfold countS; rw [hN]; simp only; rw [if_pos ⟨by first | rfl | trivial, hc⟩]
          have hbt : batchS (l.drop at_, 0) = ([], (l.drop (at_ + c), 22)) := by unfold batchS; rw [hC]; exact writesS_bad _ (by simp)
          rw [hbt]
          simp only
          rw [batches_bad _ _ (by simp), fin_bad _ _ (by simp)]
          exact ⟨1, by rw [hstep, if_pos (by omega), if_pos (by omega)]; rfl⟩
        · have hC : countS (l.drop at_, 0) = (cnt, (l.drop (at_ + c), 0)) := by unfold countS; rw [hN]; simp only; rw [if_neg (fun h => hc h.2)]
          have hbt : batchS (l.drop at_, 0) = writesS cnt (l.drop (at_ + c), 0) := by unfold batchS; rw [hC]
          have hstep2 : ∀ k, screeref7_Get.l0 (k + 1) l (a : Int) (at_ : Int) (n : Int) gr (T : Int) (i : Int) = screeref7_Get.l1 k l (a : Int) ((at_ + c : Nat) : Int) (n : Int) gr (T : Int) (i : Int) (cnt : Int) ([] : List Wr) ((0 : Nat) : Int) := by
            intro k
            rw [hstep, if_pos (show ((0 : Nat) : Int) = 0 from rfl), if_neg (by omega), show ((at_ : Int) + (c : Int)) = ((at_ + c : Nat) : Int) by omega, w64 _ (by omega)]
            rfl
          have hlen := writesS_len cnt (l.drop (at_ + c), 0)
          rcases l1_eq l hb hl a n gr (by omega) T i cnt (by omega) cnt (at_ + c) 0 [] (by omega) rfl (by omega) with ⟨at', g1, g2, g3⟩ | ⟨g1, k', g2⟩
          · have hless := batchS_less (s := (l.drop at_, 0)) (by rw [hbt, g2])
            rw [hbt, g2] at hless
            simp only [List.length_drop] at hless
            rw [g2] at hlen
            have hlen' := hlen rfl
            obtain ⟨k, hk⟩ := ih at' (i + 1) (T + cnt) (gr ++ [(writesS cnt (l.drop (at_ + c), 0)).1]) g1 (by omega) (by omega) (by omega) (by rw [total_snoc, hlen', h5]) (by omega) (by simp [h7])
            obtain ⟨k', hk'⟩ := g3 k _ (by rw [show ((T : Int) + (cnt : Int)) = ((T + cnt : Nat) : Int) by omega, u64_nat (by omega), show ((i : Int) + 1) = ((i + 1 : Nat) : Int) by omega, u64_nat (by omega)]; simpa using hk)
            refine ⟨k' + 1, ?_⟩
            rw [hstep2, hk', hbt, g2]
            simp only
            rw [show n - (i + 1) = n - i - 1 by omega]
          · refine ⟨k' + 1, ?_⟩
            rw [hstep2, g2, hbt]
            simp only
            rw [batches_bad _ _ g1, fin_bad _ _ g1]
      · have hC : countS (l.drop at_, 0) = (cnt, (l.drop (at_ + c), e)) := by unfold countS; rw [hN]; simp only; rw [if_neg (fun h => he h.1)]
        have hbt : batchS (l.drop at_, 0) = ([], (l.drop (at_ + c), e)) := by unfold batchS; rw [hC]; exact writesS_bad _ he
        rw [hbt]
        simp only
        rw [batches_bad _ _ he, fin_bad _ _ he]
        exact ⟨1, by rw [hstep, if_neg (by omega)]⟩
    · have hB : batchesS (f + 1) (n - i) (l.drop at_, 0) = ([], (l.drop at_, 0)) := by rw [batchesS, if_pos (.inl (by omega))]
      rw [hB]
      simp only [List.append_nil]
      refine ⟨1, ?_⟩
      rw [screeref7_Get.l0, if_neg (by omega)]
      have hF : finS a gr (l.drop at_, 0) = (if l.length - at_ > 0 then (0, [], 21) else if total gr > 0 ∧ (a > 72057594037927935 ∨ total gr - 1 > 72057594037927935 - a) then (0, [], 22) else ((a : Int), gr, 0)) := by
        unfold finS
        rw [if_neg (by simp)]
        simp only [hld]
      rw [hF]
      clear hF
      by_cases hx : at_ < l.length
      · rw [if_pos (show (at_ : Int) < (l.length : Int) by omega), if_pos (show l.length - at_ > 0 by omega)]
      · rw [if_neg (show ¬ (at_ : Int) < (l.length : Int) by omega), if_neg (show ¬ l.length - at_ > 0 by omega)]
        by_cases ht : T > 0
        · rw [if_pos (show (T : Int) > 0 by omega)]
          by_cases hm : a > 72057594037927935
          · rw [if_pos (show (a : Int) > 72057594037927935 by omega), if_pos (show total gr > 0 ∧ (a > 72057594037927935 ∨ total gr - 1 > 72057594037927935 - a) from ⟨by omega, .inl hm⟩)]
          · rw [if_neg (show ¬ (a : Int) > 72057594037927935 by omega), show ((T : Int) - 1) = ((T - 1 : Nat) : Int) by omega, u64_nat (show T - 1 < 18446744073709551616 by omega), show ((72057594037927935 : Int) - (a : Int)) = ((72057594037927935 - a : Nat) : Int) by omega, u64_nat (show 72057594037927935 - a < 18446744073709551616 by omega)]
            by_cases hy : T - 1 > 72057594037927935 - a
            · rw [if_pos (show ((T - 1 : Nat) : Int) > ((72057594037927935 - a : Nat) : Int) by omega), if_pos (show total gr > 0 ∧ (a > 72057594037927935 ∨ total gr - 1 > 72057594037927935 - a) from ⟨by omega, .inr (by omega)⟩)]
            · rw [if_neg (show ¬ ((T - 1 : Nat) : Int) > ((72057594037927935 - a : Nat) : Int) by omega), if_neg (show ¬ (total gr > 0 ∧ (a > 72057594037927935 ∨ total gr - 1 > 72057594037927935 - a)) by omega)]
        · rw [if_neg (show ¬ (T : Int) > 0 by omega), if_neg (show ¬ (total gr > 0 ∧ (a > 72057594037927935 ∨ total gr - 1 > 72057594037927935 - a)) by omega)]
theorem refGet_eq (l : List Int) (hb : Bytes l) (hl : l.length ≤ 1073741824) : ∃ k, screeref7_Get.f k l = some (getL l) := by
  obtain ⟨a, c, e, hU, hN, han, hck⟩ := num_form l hb
  have hbd := bytes_drop c hb
  have hld : (l.drop c).length = l.length - c := List.length_drop
  unfold getL screeref7_Get.f
  simp only [hN, refUint_eq l hb hl, hU, Option.bind_some]
  by_cases he : e = 0
  · subst he
    obtain ⟨n, c2, e2, hU2, hN2, hnn, hck2⟩ := num_form (l.drop c) hbd
    have hs2 : (l.drop c).drop c2 = l.drop (c + c2) := by rw [List.drop_drop]
    rw [hs2] at hN2
    simp only [hN2]
    by_cases he2 : e2 = 0
    · subst he2
      obtain ⟨k, hk⟩ := l0_eq l hb hl a n han hnn (l.length + 1) (c + c2) 0 0 [] (by omega) (by omega) (by omega) (by omega) rfl (by omega) rfl
      refine ⟨k, ?_⟩
      rw [if_pos (by omega), if_pos (by omega), if_pos (by omega), Int.toNat_natCast, refUint_eq _ hbd (by omega), hU2, Option.bind_some]
      simp only
      rw [if_pos (by omega), show ((c : Int) + (c2 : Int)) = ((c + c2 : Nat) : Int) by omega, w64 _ (by omega)]
      simpa using hk
    · refine ⟨0, ?_⟩
      rw [if_pos (by omega), if_pos (by omega), if_pos (by omega), Int.toNat_natCast, refUint_eq _ hbd (by omega), hU2, Option.bind_some]
      simp only
      rw [if_neg (by omega), batches_bad _ _ he2, fin_bad _ _ he2]
  · refine ⟨0, ?_⟩
    have hN2 : numS (l.drop c, e) = (0, (l.drop c, e)) := by unfold numS; rw [if_pos he]
    simp only [hN2]
    rw [if_neg (by omega), batches_bad _ _ he, fin_bad _ _ he]
end Go.Proofs.Ytnamanalacjhnaa.Gt
