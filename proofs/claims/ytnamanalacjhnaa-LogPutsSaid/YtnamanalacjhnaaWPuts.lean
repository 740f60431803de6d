/- The walk of LogPuts (this claim's own lemmas). -/
import Derived.Test.YtnamanalacjhnaaRmE
import Derived.Test.YtnamanalacjhnaaPtP
import Derived.Test.YtnamanalacjhnaaPtO
namespace Go.Proofs.Ytnamanalacjhnaa.LogPuts
open Go.RowKit Go.Proofs.YtnamanalacjhnaaW.PrintWords Go.Proofs.Ytnamanalacjhnaa.Own Go.Proofs.Ytnamanalacjhnaa.Wk Go.Proofs.Ytnamanalacjhnaa.QPt Go.Proofs.Ytnamanalacjhnaa.Pt
open Go.Proofs.Ytnamanalacjhnaa.RmG (kW kWs RoomG GroupPost)
open Go.Proofs.Ytnamanalacjhnaa.Sm (parts partsG cntG cntG_parts FitG Fit)
set_option linter.unusedVariables false
theorem groups_first {w w1 : World} {A0 : Option Addr} {c0 : Nat} {G : List (List RmG.Wr)} (hB : Below w.heap.size w w1) (hr0 : Kd.C kWs w A0 G.length G) (hc0 : G.length ≤ c0) (hG : G.length ≤ 100000) (hl : ∀ l ∈ G, l.length ≤ 100000) :
    Calls Try.prog 7 #[.pointer (some ⟨w1.heap.size, 0, none⟩), .slice A0 G.length c0] (w1.alloc (.cells (RmG.roomCells (.slice none 0 0) (.slice none 0 0) (.slice none 0 0) (.slice none 0 0)) 42)) (GroupPost w w1.heap.size G) :=
  RmG.groups_calls w _ A0 c0 G _ _ (RmG.room_new w1 w.heap.size hB.size) (hB.alloc hB.size _) hr0 hc0 hG hl
theorem same_inner (G : List (List Wr)) (i : Nat) (hi : i < G.length) (hG : G.length < 4294967295) (hr : (rd_L3 G (i : Int)).length < 4294967295) (h : ∃ k, screelaw7_sameGroups.l0 k G G ((i + 1 : Nat) : Int) = some true) : ∀ d j : Nat, j + d = (rd_L3 G (i : Int)).length → ∃ k, screelaw7_sameGroups.l1 k G G (i : Int) (j : Int) = some true := by
  intro d
  induction d with
  | zero =>
    intro j hj
    obtain ⟨k, hk⟩ := h
    refine ⟨k + 1, ?_⟩
    rw [screelaw7_sameGroups.l1, if_pos (show (0 : Int) ≤ (i : Int) by omega), if_pos (show (i : Int) < (G.length : Int) by omega), if_neg (show ¬ (j : Int) < ((rd_L3 G (i : Int)).length : Int) by omega), ww i (by omega)]
    exact hk
  | succ d ih =>
    intro j hj
    obtain ⟨k, hk⟩ := ih (j + 1) (by omega)
    refine ⟨k + 1, ?_⟩
    rw [screelaw7_sameGroups.l1, if_pos (show (0 : Int) ≤ (i : Int) by omega), if_pos (show (i : Int) < (G.length : Int) by omega), if_pos (show (j : Int) < ((rd_L3 G (i : Int)).length : Int) by omega), if_pos (show (0 : Int) ≤ (j : Int) by omega), if_pos (show (i : Int) < (G.length : Int) by omega), if_pos (show (j : Int) < ((rd_L3 G (i : Int)).length : Int) by omega), if_neg (by simp), ww j (by omega)]
    exact hk
theorem same_outer (G : List (List Wr)) (hG : G.length < 4294967295) (hr : ∀ i : Nat, (rd_L3 G (i : Int)).length < 4294967295) : ∀ d i : Nat, i + d = G.length → ∃ k, screelaw7_sameGroups.l0 k G G (i : Int) = some true := by
  intro d
  induction d with
  | zero =>
    intro i hi
    refine ⟨1, ?_⟩
    rw [screelaw7_sameGroups.l0, if_neg (show ¬ (i : Int) < (G.length : Int) by omega)]
  | succ d ih =>
    intro i hi
    obtain ⟨k, hk⟩ := same_inner G i (by omega) hG (hr i) (ih (i + 1) (by omega)) (rd_L3 G (i : Int)).length 0 (by omega)
    refine ⟨k + 1, ?_⟩
    rw [screelaw7_sameGroups.l0, if_pos (show (i : Int) < (G.length : Int) by omega), if_pos (show (0 : Int) ≤ (i : Int) by omega), if_pos (show (i : Int) < (G.length : Int) by omega), if_pos rfl]
    exact hk
theorem same_groups (G : List (List Wr)) (hG : G.length < 4294967295) (hr : ∀ r ∈ G, r.length < 4294967295) : ∃ k, screelaw7_sameGroups.f k G G = some true := by
  obtain ⟨k, hk⟩ := same_outer G hG (fun i => by
    unfold rd_L3
    rw [Int.toNat_natCast, List.getD_eq_getElem?_getD]
    cases h : G[i]? with
    | none => simp
    | some r => exact hr r (List.mem_of_getElem? h)) G.length 0 (by omega)
  exact ⟨k, by unfold screelaw7_sameGroups.f; rw [if_pos rfl]; exact hk⟩
theorem cSame {w : World} {A1 A2 : Option Addr} {n1 c1 n2 c2 : Nat} {l1 l2 : List Int} (h1 : Rd (Kd.int .u8) w A1 n1 c1 l1) (h2 : Rd (Kd.int .u8) w A2 n2 c2 l2) (he : l1 = l2) : Calls Try.prog 8 #[.slice A1 n1 c1, .slice A2 n2 c2] w (Says w true) := by
  obtain ⟨rfl, a2, a3⟩ := h1
  obtain ⟨rfl, b2, b3⟩ := h2
  exact (screelaw7_same.calls A1 c1 l1 A2 c2 l2 true w a3 a2 b3 b2 (by unfold screelaw7_same.f; rw [if_pos a3.2.1]; simp [he])).mono fun _ _ h => Says.of h
theorem cGroups {w : World} {A1 A2 : Option Addr} {c1 c2 : Nat} {G : List (List Wr)} (h1 : Kd.C kWs w A1 G.length G) (k1 : G.length ≤ c1) (h2 : Kd.C kWs w A2 G.length G) (k2 : G.length ≤ c2) (hG : G.length < 4294967295) (hr : ∀ r ∈ G, r.length < 4294967295) : Calls Try.prog 11 #[.slice A1 G.length c1, .slice A2 G.length c2] w (Says w true) := by
  obtain ⟨k, hk⟩ := same_groups G hG hr
  exact (screelaw7_sameGroups.calls k A1 c1 G A2 c2 G true w h1 k1 h2 k2 hk).mono fun _ _ h => Says.of h
theorem cPut {w : World} {A1 : Option Addr} {a c1 : Nat} {G : List (List Wr)} (h1 : Kd.C kWs w A1 G.length G) (k1 : G.length ≤ c1) (ha : a < 18446744073709551616) (hp : partsG G ≤ 32768) : Calls Try.prog 9 #[.int .u64 (a : Int), .slice A1 G.length c1] w (Made (Kd.int .u8) 5 w (putL a G)) := by
  obtain ⟨k, hk⟩ := (put_ev a G ha hp).rounds
  exact (log_Put.calls k (a : Int) A1 c1 G _ w h1 k1 hk).mono fun _ _ h => Made.of h
theorem cRef {w : World} {A1 : Option Addr} {a c1 : Nat} {G : List (List Wr)} (h1 : Kd.C kWs w A1 G.length G) (k1 : G.length ≤ c1) (ha : a < 18446744073709551616) (hp : partsG G ≤ 32768) : Calls Try.prog 10 #[.int .u64 (a : Int), .slice A1 G.length c1] w (Made (Kd.int .u8) 5 w (putL a G)) := by
  obtain ⟨k, hk⟩ := (ref_ev a G ha hp).rounds
  exact (screeref7_Put.calls k (a : Int) A1 c1 G _ w h1 k1 hk).mono fun _ _ h => Made.of h
set_option maxHeartbeats 2000000 in
set_option maxRecDepth 100000 in
theorem walk_ (a : Nat) (ha : a < 18446744073709551616) (A1 : Option Addr) (c1 : Nat) (G : List (List Wr)) (w : World) (hr1 : Kd.C kWs w A1 G.length G) (hc1 : G.length ≤ c1) (hG : G.length ≤ 140737488351232) (hl : ∀ l ∈ G, l.length ≤ 140737488351232) (hf : FitG G) :
    Calls Try.prog 4 #[.int .u64 (a : Int), .slice A1 G.length c1] w fun e w' => e = .returned (.bool true) ∧ Below w.heap.size w w' := by
  have HR := Aside0.mk hr1
  have HC := Aside0.mk (Sm.small_calls (w := w) (c := c1) ⟨rfl, hc1, hr1⟩ hG hl hf)
  obtain ⟨b, hb⟩ : ∃ b, decide (0 ≤ cntG 32768 G) = b := ⟨_, rfl⟩
  rw [hb] at HC
  cases b with
  | false =>
    clear hr1 hl hf HR hb
    go_enter Try.func4, Try.ntmps4
    go_wp2_with fail
    refine HC.out.mono ?_
    rintro e w1 ⟨rfl, hb1⟩
    have HB1 := Aside0.mk hb1
    clear hb1
    go_wp2_with fail
    go_ret
    exact ⟨rfl, HB1.out⟩
  | true =>
    have HP := Aside0.mk (cntG_parts (of_decide_eq_true hb))
    have hgl : G.length ≤ 32768 := by have := HP.out; unfold partsG at this; omega
    have HL : Aside0 (∀ l ∈ G, l.length ≤ 100000) := ⟨fun l h => by have h1 := mem_partsG h; have h2 := len_parts l; have h3 := HP.out; unfold partsG at h3; omega⟩
    have HA := Aside0.mk ha
    clear hr1 hl hf hb hG ha
    go_enter Try.func4, Try.ntmps4
    go_wp2_with fail
    refine HC.out.mono ?_
    rintro e w1 ⟨rfl, hb1⟩
    have HB1 := Aside0.mk hb1
    clear hb1
    go_wp2_with fail
    refine (groups_first HB1.out HR.out hc1 (by omega) HL.out).mono ?_
    rintro e w2 ⟨A, rfl, hRm, hCA, hb2⟩
    generalize w1.heap.size = g at hRm ⊢
    have HRm := Aside0.mk hRm
    have HCA := Aside0.mk hCA
    have HB2 := Aside0.mk hb2
    clear hRm hCA hb2 HB1
    go_wp2_with fail
    refine (cPut HCA.out (by omega) HA.out HP.out).mono ?_
    rintro e w3 ⟨A3, n3, c3, l3, rfl, hl3, hd3, -, hb3⟩
    have HRm3 := Aside0.mk (HRm.out.below hb3)
    have HCA3 := Aside0.mk (Kd.C_below HCA.out hb3)
    have HD3 := Aside0.mk hd3
    have HL3 := Aside0.mk hl3
    have HB3 := Aside0.mk (below_step HB2.out hb3)
    clear hd3 hl3 hb3 HRm HCA HB2
    go_wp2_with fail
    refine (cRef (Kd.C_below HR.out HB3.out) hc1 HA.out HP.out).mono ?_
    rintro e w4 ⟨A4, n4, c4, l4, rfl, hl4, hd4, -, hb4⟩
    have HRm4 := Aside0.mk (HRm3.out.below hb4)
    have HCA4 := Aside0.mk (Kd.C_below HCA3.out hb4)
    have HD3b := Aside0.mk (HD3.out.step hb4)
    have HD4 := Aside0.mk hd4
    have HE : Aside0 (l3 = l4) := ⟨HL3.out.trans hl4.symm⟩
    have HB4 := Aside0.mk (below_step HB3.out hb4)
    clear hd4 hl4 hb4 HRm3 HCA3 HB3 HD3 HL3
    go_wp2_with fail
    refine (cSame HD3b.out HD4.out HE.out).mono ?_
    rintro e w5 ⟨rfl, hb5⟩
    have HRm5 := Aside0.mk (HRm4.out.below hb5)
    have HCA5 := Aside0.mk (Kd.C_below HCA4.out hb5)
    have HB5 := Aside0.mk (below_step HB4.out hb5)
    clear hb5 HRm4 HCA4 HB4 HD3b HD4 HE
    go_wp2_with fail
    refine (cGroups HCA5.out (by omega) (Kd.C_below HR.out HB5.out) hc1 (by omega) (fun r h => by have := HL.out r h; omega)).mono ?_
    rintro e w6 ⟨rfl, hb6⟩
    have HRm6 := Aside0.mk (HRm5.out.below hb6)
    have HB6 := Aside0.mk (below_step HB5.out hb6)
    clear hb6 HRm5 HCA5 HB5
    go_wp2_with fail
    refine (RmG.hold_calls _ g G HRm6.out (by omega) HL.out).mono ?_
    rintro e w7 ⟨rfl, hb7⟩
    have HB7 := Aside0.mk (below_step HB6.out hb7)
    clear hb7
    go_wp2_with fail
    go_ret
    exact ⟨rfl, HB7.out⟩
theorem walk (a0 : Int) (w0 : (Lit.int .u64 a0).wf = true) (A1 : Option Addr) (c1 : Nat) (l1 : List (List Opn.Wr)) {w' : World} (hr1 : (Kd.slice 64 Opn.kW).C w' A1 l1.length l1) (hc1 : l1.length ≤ c1) (hg1 : Opn.GG l1) (w : World) (e : w' = w := by rfl) :
    Calls Try.prog 4 #[.int .u64 a0, .slice A1 l1.length c1] w fun e w' => e = .returned (.bool true) ∧ Below w.heap.size w w' := by
  subst e
  have x0 : 0 ≤ a0 ∧ a0 ≤ 18446744073709551615 := by simpa [Lit.wf, IntKind.min, IntKind.max, IntKind.signed, IntKind.bits] using w0
  obtain ⟨n, rfl⟩ := Int.eq_ofNat_of_zero_le x0.1
  exact walk_ n (by omega) A1 c1 l1 _ hr1 hc1 hg1.1 hg1.2.1 hg1.2.2
end Go.Proofs.Ytnamanalacjhnaa.LogPuts
