/- The walk of LogGets (this claim's own lemmas). -/
import Derived.Test.YtnamanalacjhnaaGetF
import Derived.Test.YtnamanalacjhnaaLgO
import Derived.Test.YtnamanalacjhnaaQGtx2
namespace Go.Proofs.Ytnamanalacjhnaa.LogGets
open Go.RowKit Go.Proofs.YtnamanalacjhnaaW.PrintWords Go.Proofs.Ytnamanalacjhnaa.Own Go.Proofs.Ytnamanalacjhnaa.Room Go.Proofs.Ytnamanalacjhnaa.Wk Go.Proofs.Ytnamanalacjhnaa.QGt Go.Proofs.Ytnamanalacjhnaa.Gt
set_option linter.unusedVariables false
theorem ww (n : Nat) (h : n < 4294967295) : wrap64 ((n : Int) + 1) = ((n + 1 : Nat) : Int) := by rw [show ((n : Int) + 1) = ((n + 1 : Nat) : Int) by omega]; exact w64 _ (by omega)
theorem same_inner (G : List (List Wr)) (i : Nat) (hi : i < G.length) (hG : G.length < 4294967295) (hr : (rd_L5 G (i : Int)).length < 4294967295) (h : ∃ k, screelaw7_sameGroups.l0 k G G ((i + 1 : Nat) : Int) = some true) : ∀ d j : Nat, j + d = (rd_L5 G (i : Int)).length → ∃ k, screelaw7_sameGroups.l1 k G G (i : Int) (j : Int) = some true := by
  intro d
  induction d with
  | zero =>
    intro j hj
    obtain ⟨k, hk⟩ := h
    refine ⟨k + 1, ?_⟩
    rw [screelaw7_sameGroups.l1, if_pos (show (0 : Int) ≤ (i : Int) by omega), if_pos (show (i : Int) < (G.length : Int) by omega), if_neg (show ¬ (j : Int) < ((rd_L5 G (i : Int)).length : Int) by omega), ww i (by omega)]
    exact hk
  | succ d ih =>
    intro j hj
    obtain ⟨k, hk⟩ := ih (j + 1) (by omega)
    refine ⟨k + 1, ?_⟩
    rw [screelaw7_sameGroups.l1, if_pos (show (0 : Int) ≤ (i : Int) by omega), if_pos (show (i : Int) < (G.length : Int) by omega), if_pos (show (j : Int) < ((rd_L5 G (i : Int)).length : Int) by omega), if_pos (show (0 : Int) ≤ (j : Int) by omega), if_pos (show (i : Int) < (G.length : Int) by omega), if_pos (show (j : Int) < ((rd_L5 G (i : Int)).length : Int) by omega), if_neg (by simp), ww j (by omega)]
    exact hk
theorem same_outer (G : List (List Wr)) (hG : G.length < 4294967295) (hr : ∀ i : Nat, (rd_L5 G (i : Int)).length < 4294967295) : ∀ d i : Nat, i + d = G.length → ∃ k, screelaw7_sameGroups.l0 k G G (i : Int) = some true := by
  intro d
  induction d with
  | zero =>
    intro i hi
    refine ⟨1, ?_⟩
    rw [screelaw7_sameGroups.l0, if_neg (show ¬ (i : Int) < (G.length : Int) by omega)]
  | succ d ih =>
    intro i hi
    obtain ⟨k, hk⟩ := same_inner G i (by omega) hG (hr i) (ih (i + 1) (by omega)) (rd_L5 G (i : Int)).length 0 (by omega)
    refine ⟨k + 1, ?_⟩
    rw [screelaw7_sameGroups.l0, if_pos (show (i : Int) < (G.length : Int) by omega), if_pos (show (0 : Int) ≤ (i : Int) by omega), if_pos (show (i : Int) < (G.length : Int) by omega), if_pos rfl]
    exact hk
theorem same_groups (G : List (List Wr)) (hG : G.length < 4294967295) (hr : ∀ r ∈ G, r.length < 4294967295) : ∃ k, screelaw7_sameGroups.f k G G = some true := by
  obtain ⟨k, hk⟩ := same_outer G hG (fun i => by
    unfold rd_L5
    rw [Int.toNat_natCast, List.getD_eq_getElem?_getD]
    cases h : G[i]? with
    | none => simp
    | some r => exact hr r (List.mem_of_getElem? h)) G.length 0 (by omega)
  exact ⟨k, by unfold screelaw7_sameGroups.f; rw [if_pos rfl]; exact hk⟩
theorem batches_small : ∀ (f n : Nat) (s : St), (batchesS f n s).1.length ≤ f ∧ ∀ r ∈ (batchesS f n s).1, r.length ≤ 16
  | 0, n, s => ⟨Nat.le_refl _, by simp [batchesS]⟩
  | f + 1, n, s => by
    unfold batchesS
    split
    · exact ⟨Nat.zero_le _, by simp⟩
    · have ih := batches_small f (n - 1) (batchS s).2
      refine ⟨by simp only [List.length_cons]; omega, fun r hr => ?_⟩
      rcases List.mem_cons.1 hr with rfl | hr
      · exact batchS_le s
      · exact ih.2 r hr
theorem getL_small (l : List Int) : (getL l).2.1.length ≤ l.length + 1 ∧ ∀ r ∈ (getL l).2.1, r.length ≤ 16 := by
  unfold getL
  simp only
  have h := batches_small (l.length + 1) (numS (numS (l, 0)).2).1 (numS (numS (l, 0)).2).2
  unfold finS
  split
  · exact ⟨Nat.zero_le _, by simp⟩
  · split
    · exact ⟨Nat.zero_le _, by simp⟩
    · split
      · exact ⟨Nat.zero_le _, by simp⟩
      · exact h
theorem cSame {w : World} {A1 A2 : Option Addr} {n1 c1 n2 c2 : Nat} {l1 l2 : List Int} (h1 : Rd (Kd.int .u8) w A1 n1 c1 l1) (h2 : Rd (Kd.int .u8) w A2 n2 c2 l2) (he : l1 = l2) : Calls Try.prog 8 #[.slice A1 n1 c1, .slice A2 n2 c2] w (Says w true) := by
  obtain ⟨rfl, a2, a3⟩ := h1
  obtain ⟨rfl, b2, b3⟩ := h2
  exact (screelaw7_same.calls A1 c1 l1 A2 c2 l2 true w a3 a2 b3 b2 (by unfold screelaw7_same.f; rw [if_pos a3.2.1]; simp [he])).mono fun _ _ h => Says.of h
/-- What a reading of a group leaves. -/
def Got (w : World) (x : Int) (G : List (List Wr)) (y : Int) (e : Ending) (w' : World) : Prop := ∃ A n c, e = .returned (.tuple #[.int .u64 x, .slice A n c, .int .i64 y]) ∧ Rd (Kd.slice 64 k64) w' A n c G ∧ Below w.heap.size w w'
theorem Got.of {w : World} {x : Int} {G : List (List Wr)} {y : Int} {e : Ending} {w' : World} (h : ∃ v, e = .returned (.tuple #[.int .u64 x, v, .int .i64 y]) ∧ Kd.S (Kd.slice 64 k64) 62 w' w.heap.size (fun _ => True) v G ∧ Below w.heap.size w w') : Got w x G y e w' := by
  obtain ⟨v, rfl, h1, h2⟩ := h
  obtain ⟨A, n, c, rfl, h3, h4⟩ := Rd.of_R (Kd.S_R h1)
  exact ⟨A, n, c, rfl, h3, h2⟩
theorem cGet {w : World} {A : Option Addr} {n c : Nat} {l : List Int} {x y : Int} {G : List (List Wr)} (h : Rd (Kd.int .u8) w A n c l) (hb : Bytes l) (hl : l.length ≤ 65536) (hg : getL l = (x, G, y)) : Calls Try.prog 14 #[.slice A n c] w (Got w x G y) := by
  have hc := get_calls h hb (by omega)
  rw [hg] at hc
  exact hc.mono fun _ _ h => Got.of h
theorem cRefGet {w : World} {A : Option Addr} {n c : Nat} {l : List Int} {x y : Int} {G : List (List Wr)} (h : Rd (Kd.int .u8) w A n c l) (hb : Bytes l) (hl : l.length ≤ 65536) (hg : getL l = (x, G, y)) : Calls Try.prog 15 #[.slice A n c] w (Got w x G y) := by
  obtain ⟨k, hk⟩ := refGet_eq l hb (by omega)
  rw [hg] at hk
  obtain ⟨rfl, a2, a3⟩ := h
  exact (screeref7_Get.calls k A c l x G y w a3 a2 hk).mono fun _ _ h => Got.of h
theorem cGroups {w : World} {A1 A2 : Option Addr} {n1 c1 n2 c2 : Nat} {G : List (List Wr)} (h1 : Rd (Kd.slice 64 k64) w A1 n1 c1 G) (h2 : Rd (Kd.slice 64 k64) w A2 n2 c2 G) (hG : G.length < 4294967295) (hr : ∀ r ∈ G, r.length < 4294967295) : Calls Try.prog 11 #[.slice A1 n1 c1, .slice A2 n2 c2] w (Says w true) := by
  obtain ⟨rfl, a2, a3⟩ := h1
  obtain ⟨rfl, b2, b3⟩ := h2
  obtain ⟨k, hk⟩ := same_groups G hG hr
  exact (screelaw7_sameGroups.calls k A1 c1 G A2 c2 G true w a3 a2 b3 b2 hk).mono fun _ _ h => Says.of h
set_option maxHeartbeats 2000000 in
set_option maxRecDepth 100000 in
theorem walk_ (A0 : Option Addr) (c0 : Nat) (l0 : List Int) (w : World) (hr0 : Rd (Kd.int .u8) w A0 l0.length c0 l0) (hl : Bytes l0) (hlen : l0.length ≤ 140737488351232) :
    Calls Try.prog 5 #[.slice A0 l0.length c0] w fun e w' => e = .returned (.bool true) ∧ Below w.heap.size w w' := by
  by_cases hbig : l0.length > 65536
  · have d1 : decide ((65536 : Int) < (l0.length : Int)) = true := decide_eq_true (by omega)
    have d2 : decide (65536 < l0.length) = true := decide_eq_true (by omega)
    clear hr0 hl
    go_enter Try.func5, Try.ntmps5
    go_wp2_with fail
    go_ret
    exact ⟨rfl, Below.refl _ _⟩
  have d1 : decide ((65536 : Int) < (l0.length : Int)) = false := decide_eq_false (by omega)
  have d2 : decide (65536 < l0.length) = false := decide_eq_false (by omega)
  have HR0 := Aside0.mk hr0
  have HL := Aside0.mk hl
  have hs := getL_small l0
  obtain ⟨x, G, y, hg⟩ : ∃ x G y, getL l0 = (x, G, y) := ⟨_, _, _, rfl⟩
  rw [hg] at hs
  have HS : Aside0 (G.length < 4294967295 ∧ ∀ r ∈ G, r.length < 4294967295) := ⟨by simp only at hs; omega, fun r hr => by have := hs.2 r hr; omega⟩
  have HG := Aside0.mk hg
  clear hr0 hl hs hg
  go_enter Try.func5, Try.ntmps5
  go_wp2_with fail
  refine (bytes_first (Below.refl _ _) HR0.out.2.2 HR0.out.2.1 hlen).mono ?_
  rintro e w2 ⟨b, cap, rfl, hO⟩
  generalize w.heap.size = g at hO ⊢
  have S := Aside0.mk hO
  clear hO
  go_wp2_with fail
  refine (cGet (S.out.rd (by omega)) HL.out (by omega) HG.out).mono ?_
  rintro e w3 ⟨A3, n3, c3, rfl, hd3, hb3⟩
  have S3 := Aside0.mk (S.out.step hb3)
  have Ra_3 := Aside0.mk hd3
  clear hd3 hb3 S w2
  go_wp2_with fail
  refine (cRefGet (HR0.out.step S3.out.bel) HL.out (by omega) HG.out).mono ?_
  rintro e w4 ⟨A4, n4, c4, rfl, hd4, hb4⟩
  have S4 := Aside0.mk (S3.out.step hb4)
  have Ra_4 := Aside0.mk (Ra_3.out.step hb4)
  have Rb_4 := Aside0.mk hd4
  clear hd4 hb4 S3 Ra_3 w3
  go_wp2_with fail
  refine (cGroups Ra_4.out Rb_4.out HS.out.1 HS.out.2).mono ?_
  rintro e w5 ⟨rfl, hb5⟩
  have S5 := Aside0.mk (S4.out.step hb5)
  clear hb5 S4 Ra_4 Rb_4 w4
  go_wp2_with fail
  refine (screelaw7_num.calls y y w5 rfl).mono ?_
  rintro e w6 ⟨rfl, hb6⟩
  have S6 := Aside0.mk (S5.out.step hb6.below)
  clear hb6 S5 w5
  go_wp2_with fail
  refine (cSame (S6.out.rd (by omega)) (HR0.out.step S6.out.bel) rfl).mono ?_
  rintro e w7 ⟨rfl, hb7⟩
  have S7 := Aside0.mk (S6.out.step hb7)
  clear hb7 S6 w6
  go_wp2_with fail
  obtain ⟨F7, hRm7, hFb7⟩ := S7.out.room
  refine (hold_calls w7 _ F7 g _ hRm7 (by simp)).mono ?_
  rintro e w8 ⟨rfl, rfl⟩
  clear hRm7 hFb7 F7
  go_wp2_with fail
  go_ret
  exact ⟨rfl, S7.out.bel⟩
theorem walk (A0 : Option Addr) (c0 : Nat) (l0 : List Int) {w' : World} (hr0 : Kd.C (Kd.int .u8) w' A0 l0.length l0) (hc0 : l0.length ≤ c0) (hw0 : ∀ x ∈ l0, (Lit.int .u8 x).wf = true) (y0 : l0.length * 1 ≤ 140737488351232) (w : World) (e : w' = w := by rfl) :
    Calls Try.prog 5 #[.slice A0 l0.length c0] w fun e w' => e = .returned (.bool true) ∧ Below w.heap.size w w' := by
  subst e
  exact walk_ A0 c0 l0 _ ⟨rfl, hc0, hr0⟩ (bytes_wf hw0) (by omega)
end Go.Proofs.Ytnamanalacjhnaa.LogGets
