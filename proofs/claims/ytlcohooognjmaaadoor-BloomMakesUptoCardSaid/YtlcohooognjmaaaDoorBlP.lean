/- Plain functions of the filter: its places, its bits (this claim's own definitions; no program in sight). -/
import Derived.Test.YtlcohooognjmaaaDoorGConvB
namespace Go.Proofs.YtlcohooognjmaaaDoor.Bl
open Go.RowKit Go.Proofs.YtlcohooognjmaaaDoorW.PrintWords Go.Proofs.YtlcohooognjmaaaDoorW.PrintMore Go.Proofs.YtlcohooognjmaaaDoor.Own Go.Proofs.YtlcohooognjmaaaDoor.G
set_option linter.unusedVariables false
def rotN (h : Nat) : Nat := h / 131072 + h % 131072 * 32768
/-- The place number i of a sum h, over m places. -/
def prb (h i m : Nat) : Nat := (h + i * rotN h) % 4294967296 % m
/-- A bit set. -/
def setB (l : List Int) (p : Nat) : List Int := l.set (p / 8) (bits .or .u8 (rd l ((p / 8 : Nat) : Int)) ((2 ^ (p % 8) : Nat) : Int))
/-- Is it set? -/
def hasB (l : List Int) (p : Nat) : Bool := decide ((rd l ((p / 8 : Nat) : Int)).toNat / 2 ^ (p % 8) % 2 = 1)
def hashS (s : ByteArray) : Nat := (sumF (bytesOf s)).toNat
def spotsL (h k m : Nat) : List Nat := (List.range k).map fun i => prb h i m
def keyB (k m : Nat) (l : List Int) (s : ByteArray) : List Int := (spotsL (hashS s) k m).foldl setB l
def places (n size : Nat) : Nat := min (max ((n * size + 7) / 8 * 8) 64) 1048576
def probesN (size : Nat) : Nat := max (size * 69 / 100) 1
def makeN (keys : List ByteArray) (size : Nat) : List Int := keys.foldl (keyB (probesN size) (places keys.length size)) (List.replicate (places keys.length size / 8) 0) ++ [((probesN size : Nat) : Int)]
def makeL (keys : List ByteArray) (b : Int) : List Int := if b < 1 ∨ keys = [] then [] else makeN keys (min b.toNat 16)
def mayL (f : List Int) (s : ByteArray) : Bool := if f.length < 9 then true else if (rd f ((f.length - 1 : Nat) : Int)).toNat = 0 ∨ 11 < (rd f ((f.length - 1 : Nat) : Int)).toNat then true else (spotsL (hashS s) (rd f ((f.length - 1 : Nat) : Int)).toNat (8 * (f.length - 1))).all (hasB f)
theorem setB_len (l : List Int) (p : Nat) : (setB l p).length = l.length := by simp [setB]
theorem bytes_str (s : ByteArray) : Bytes (bytesOf s) := fun y hy => by
  simp only [bytesOf, List.mem_map] at hy
  obtain ⟨b, _, rfl⟩ := hy
  have := b.toNat_lt
  constructor <;> omega
theorem hash_lt (s : ByteArray) : hashS s < 4294967296 := by
  have h : U32 (sumF (bytesOf s)) := u32_xor_range (by simp [U32]) (sumf_range (bytes_str s))
  have h1 := h.1
  have h2 := h.2
  unfold hashS
  omega
theorem hashS_eq (s : ByteArray) : sumF (bytesOf s) = ((hashS s : Nat) : Int) := by
  have h : U32 (sumF (bytesOf s)) := u32_xor_range (by simp [U32]) (sumf_range (bytes_str s))
  have h1 := h.1
  unfold hashS
  omega
theorem rd_bytes {l : List Int} (hl : Bytes l) (k : Nat) : 0 ≤ rd l (k : Int) ∧ rd l (k : Int) ≤ 255 := by
  by_cases h : k < l.length
  · exact bytes_rd hl k h
  · simp [rd, List.getD_eq_getElem?_getD, List.getElem?_eq_none (Nat.le_of_not_lt h)]
theorem two8 (p : Nat) : 2 ^ (p % 8) < 256 := Nat.lt_of_le_of_lt (Nat.pow_le_pow_right (by decide) (show p % 8 ≤ 7 by omega)) (by decide)
theorem or_nat {l : List Int} (hl : Bytes l) (p : Nat) : bits .or .u8 (rd l ((p / 8 : Nat) : Int)) ((2 ^ (p % 8) : Nat) : Int) = (((rd l ((p / 8 : Nat) : Int)).toNat ||| 2 ^ (p % 8) : Nat) : Int) := by
  obtain ⟨a, ha⟩ := Int.eq_ofNat_of_zero_le (rd_bytes hl (p / 8)).1
  have h2 := (rd_bytes hl (p / 8)).2
  have := two8 p
  rw [ha, u8_or_nat a _ (by omega) (by omega), Int.toNat_natCast]
theorem setB_bytes {l : List Int} (hl : Bytes l) (p : Nat) : Bytes (setB l p) := fun y hy => by
  rcases List.mem_or_eq_of_mem_set hy with h1 | rfl
  · exact hl y h1
  · rw [or_nat hl]
    have h1 := (rd_bytes hl (p / 8))
    have h2 := two8 p
    have h3 : (rd l ((p / 8 : Nat) : Int)).toNat ||| 2 ^ (p % 8) < 2 ^ 8 := Nat.or_lt_two_pow (by omega) h2
    constructor <;> omega
theorem rd_set (l : List Int) (j k : Nat) (x : Int) (h : j < l.length) : rd (l.set j x) (k : Int) = if k = j then x else rd l (k : Int) := by
  simp only [rd, Int.toNat_natCast, List.getD_eq_getElem?_getD]
  by_cases e : k = j
  · subst e
    simp [h]
  · rw [if_neg e, List.getElem?_set_ne (Ne.symm e)]
theorem bit_or (a s t : Nat) : (a ||| 2 ^ s) / 2 ^ t % 2 = 1 ↔ (a / 2 ^ t % 2 = 1 ∨ s = t) := by
  have h1 := Nat.testBit_eq_decide_div_mod_eq (x := a ||| 2 ^ s) (i := t)
  have h2 := Nat.testBit_eq_decide_div_mod_eq (x := a) (i := t)
  rw [Nat.testBit_or, Nat.testBit_two_pow, h2] at h1
  by_cases hs : s = t <;> simp [hs] at h1 ⊢ <;> first | exact h1 | exact h1.symm | simpa using h1.symm
theorem hasB_set {l : List Int} (hl : Bytes l) (p q : Nat) (h : p / 8 < l.length) : hasB (setB l p) q = (hasB l q || decide (p = q)) := by
  unfold hasB setB
  rw [rd_set l _ _ _ h]
  by_cases e : q / 8 = p / 8
  · rw [if_pos e, or_nat hl, Int.toNat_natCast, e]
    have := bit_or (rd l ((p / 8 : Nat) : Int)).toNat (p % 8) (q % 8)
    have e2 : p % 8 = q % 8 ↔ p = q := ⟨fun h => by omega, fun h => by rw [h]⟩
    rw [e2] at this
    simp only [this, Bool.decide_or]
  · rw [if_neg e]
    have : p ≠ q := fun h => e (by rw [h])
    simp [this]
/-- The bits tell the bytes. -/
theorem same_bits {l f : List Int} (hl : Bytes l) (hf : Bytes f) (hlen : l.length = f.length) (h : ∀ q, q < 8 * l.length → hasB l q = hasB f q) : l = f := by
  apply List.ext_getElem hlen
  intro i h1 h2
  obtain ⟨a, ha⟩ := Int.eq_ofNat_of_zero_le (bytes_rd hl i h1).1
  obtain ⟨b, hb⟩ := Int.eq_ofNat_of_zero_le (bytes_rd hf i h2).1
  have ha2 := (bytes_rd hl i h1).2
  have hb2 := (bytes_rd hf i h2).2
  have he : a = b := by
    apply Nat.eq_of_testBit_eq
    intro j
    by_cases hj : j < 8
    · have hq := h (8 * i + j) (by omega)
      unfold hasB at hq
      rw [show (8 * i + j) / 8 = i by omega, show (8 * i + j) % 8 = j by omega, ha, hb] at hq
      rw [Nat.testBit_eq_decide_div_mod_eq, Nat.testBit_eq_decide_div_mod_eq]
      exact hq
    · have hp : 2 ^ 8 ≤ 2 ^ j := Nat.pow_le_pow_right (by decide) (by omega)
      rw [Nat.testBit_lt_two_pow (by omega), Nat.testBit_lt_two_pow (by omega)]
  rw [he, ← hb] at ha
  simp only [rd, Int.toNat_natCast, List.getD_eq_getElem?_getD, List.getElem?_eq_getElem h1, List.getElem?_eq_getElem h2, Option.getD_some] at ha
  exact ha
theorem fold_len (ps : List Nat) : ∀ l : List Int, (ps.foldl setB l).length = l.length := by
  induction ps with
  | nil => intro l; rfl
  | cons p ps ih => intro l; rw [List.foldl_cons, ih, setB_len]
theorem fold_bytes (ps : List Nat) : ∀ l : List Int, Bytes l → Bytes (ps.foldl setB l) := by
  induction ps with
  | nil => intro l h; exact h
  | cons p ps ih => intro l h; exact ih _ (setB_bytes h p)
theorem fold_has (ps : List Nat) : ∀ l : List Int, Bytes l → (∀ p ∈ ps, p / 8 < l.length) → ∀ q, hasB (ps.foldl setB l) q = (hasB l q || decide (q ∈ ps)) := by
  induction ps with
  | nil => intro l _ _ q; simp
  | cons p ps ih =>
    intro l hl hp q
    rw [List.foldl_cons, ih (setB l p) (setB_bytes hl p) (fun x hx => by rw [setB_len]; exact hp x (List.mem_cons_of_mem _ hx)) q, hasB_set hl p q (hp p List.mem_cons_self)]
    by_cases e : p = q
    · subst e; simp
    · have e2 : ¬ q = p := fun h => e h.symm
      simp [e, e2]
theorem prb_lt (h i m : Nat) (hm : 0 < m) : prb h i m < m := Nat.mod_lt _ hm
theorem spots_lt {h k m p : Nat} (hm : 0 < m) (hp : p ∈ spotsL h k m) : p < m := by
  simp only [spotsL, List.mem_map] at hp
  obtain ⟨i, _, rfl⟩ := hp
  exact prb_lt h i m hm
theorem places_ge (n size : Nat) : 64 ≤ places n size ∧ places n size ≤ 1048576 ∧ places n size % 8 = 0 := by
  unfold places
  omega
/-- All places of a list of keys. -/
def allSpots (keys : List ByteArray) (k m : Nat) : List Nat := keys.flatMap fun s => spotsL (hashS s) k m
theorem keys_fold (k m : Nat) (keys : List ByteArray) : ∀ l : List Int, keys.foldl (keyB k m) l = (allSpots keys k m).foldl setB l := by
  induction keys with
  | nil => intro l; rfl
  | cons s keys ih => intro l; rw [List.foldl_cons, ih]; simp [allSpots, keyB, List.foldl_append]
theorem allSpots_lt {keys : List ByteArray} {k m p : Nat} (hm : 0 < m) (hp : p ∈ allSpots keys k m) : p < m := by
  simp only [allSpots, List.mem_flatMap] at hp
  obtain ⟨s, _, hp⟩ := hp
  exact spots_lt hm hp
theorem zeros_bytes (n : Nat) : Bytes (List.replicate n (0 : Int)) := fun y hy => by
  rw [List.mem_replicate] at hy
  rw [hy.2]
  constructor <;> omega
theorem zeros_has (n q : Nat) : hasB (List.replicate n (0 : Int)) q = false := by
  unfold hasB
  have : rd (List.replicate n (0 : Int)) ((q / 8 : Nat) : Int) = 0 := by
    simp only [rd, Int.toNat_natCast, List.getD_eq_getElem?_getD]
    by_cases h : q / 8 < n
    · simp [h]
    · rw [List.getElem?_eq_none (by simpa using h)]; rfl
  rw [this]
  simp
/-- The bits' part of a filter. -/
def bodyN (keys : List ByteArray) (size : Nat) : List Int := keys.foldl (keyB (probesN size) (places keys.length size)) (List.replicate (places keys.length size / 8) 0)
theorem body_len (keys : List ByteArray) (size : Nat) : (bodyN keys size).length = places keys.length size / 8 := by
  unfold bodyN
  rw [keys_fold, fold_len, List.length_replicate]
theorem body_bytes (keys : List ByteArray) (size : Nat) : Bytes (bodyN keys size) := by
  unfold bodyN
  rw [keys_fold]
  exact fold_bytes _ _ (zeros_bytes _)
theorem body_has (keys : List ByteArray) (size q : Nat) : hasB (bodyN keys size) q = decide (q ∈ allSpots keys (probesN size) (places keys.length size)) := by
  unfold bodyN
  have h := places_ge keys.length size
  rw [keys_fold, fold_has _ _ (zeros_bytes _) (fun p hp => by have := allSpots_lt (by omega) hp; rw [List.length_replicate]; omega), zeros_has, Bool.false_or]
theorem make_form (keys : List ByteArray) (size : Nat) : makeN keys size = bodyN keys size ++ [((probesN size : Nat) : Int)] := rfl
theorem make_len (keys : List ByteArray) (size : Nat) : (makeN keys size).length = places keys.length size / 8 + 1 := by rw [make_form, List.length_append, body_len]; rfl
theorem rd_left (a b : List Int) (k : Nat) (h : k < a.length) : rd (a ++ b) (k : Int) = rd a (k : Int) := by
  simp only [rd, Int.toNat_natCast, List.getD_eq_getElem?_getD]
  rw [List.getElem?_append_left h]
theorem rd_last (a : List Int) (x : Int) : rd (a ++ [x]) ((a.length : Nat) : Int) = x := by
  simp [rd, List.getD_eq_getElem?_getD]
theorem probes_ge (size : Nat) (h : size ≤ 16) : 1 ≤ probesN size ∧ probesN size ≤ 11 := by
  unfold probesN
  omega
theorem make_bytes (keys : List ByteArray) (size : Nat) (h : size ≤ 16) : Bytes (makeN keys size) := fun y hy => by
  rw [make_form] at hy
  rcases List.mem_append.1 hy with h1 | h1
  · exact body_bytes _ _ y h1
  · have := probes_ge size h
    rw [List.mem_singleton.1 h1]
    constructor <;> omega
/-- What is asked of bits that a list has besides. -/
theorem may_at (a : List Int) (x : Int) (s : ByteArray) (k : Nat) (hx : x = (k : Int)) (hk : 1 ≤ k ∧ k ≤ 11) (ha : 8 ≤ a.length) : mayL (a ++ [x]) s = (spotsL (hashS s) k (8 * a.length)).all (hasB a) := by
  have hl : (a ++ [x]).length - 1 = a.length := by simp
  unfold mayL
  rw [hl, rd_last, if_neg (by simp; omega), hx, Int.toNat_natCast, if_neg (by omega)]
  apply Bool.eq_iff_iff.2
  simp only [List.all_eq_true]
  have : ∀ p ∈ spotsL (hashS s) k (8 * a.length), hasB (a ++ [(k : Int)]) p = hasB a p := fun p hp => by
    have := spots_lt (by omega) hp
    unfold hasB
    rw [rd_left _ _ _ (by omega)]
  exact ⟨fun h p hp => by rw [← this p hp]; exact h p hp, fun h p hp => by rw [this p hp]; exact h p hp⟩
/-- No key of the list is denied. -/
theorem holds (keys : List ByteArray) (b : Int) (s : ByteArray) (hs : s ∈ keys) : mayL (makeL keys b) s = true := by
  unfold makeL
  split
  · simp [mayL]
  · rename_i h
    have hb : ¬ b < 1 := fun e => h (.inl e)
    have hp := probes_ge (min b.toNat 16) (by omega)
    have hg := places_ge keys.length (min b.toNat 16)
    rw [make_form, may_at _ _ _ _ rfl hp (by rw [body_len]; omega), body_len]
    have e : 8 * (places keys.length (min b.toNat 16) / 8) = places keys.length (min b.toNat 16) := by omega
    rw [e, List.all_eq_true]
    intro p hpm
    rw [body_has]
    exact decide_eq_true (List.mem_flatMap.2 ⟨s, hs, hpm⟩)
theorem empty_iff (keys : List ByteArray) (b : Int) : (makeL keys b).length = 0 ↔ (b < 1 ∨ keys.length = 0) := by
  unfold makeL
  split
  · rename_i h
    rcases h with h | h
    · simp [h]
    · simp [h]
  · rename_i h
    rw [make_len]
    constructor
    · intro h; omega
    · intro h2
      rcases h2 with h2 | h2
      · exact absurd (.inl h2) h
      · exact absurd (.inr (List.eq_nil_of_length_eq_zero h2)) h
/-- The order of the keys does not show. -/
theorem rev (keys : List ByteArray) (b : Int) : makeL keys.reverse b = makeL keys b := by
  unfold makeL
  by_cases h : b < 1 ∨ keys = []
  · rw [if_pos h, if_pos (by rcases h with h | h; exact .inl h; exact .inr (by rw [h]; rfl))]
  · rw [if_neg h, if_neg (by intro h2; apply h; rcases h2 with h2 | h2; exact .inl h2; exact .inr (List.reverse_eq_nil_iff.1 h2)), make_form, make_form]
    congr 1
    refine same_bits (body_bytes _ _) (body_bytes _ _) (by rw [body_len, body_len, List.length_reverse]) (fun q _ => ?_)
    rw [body_has, body_has, List.length_reverse]
    exact decide_eq_decide.2 (by simp [allSpots])
/-- Bits set besides make no answer false. -/
theorem may_more (a c : List Int) (x : Int) (s : ByteArray) (k : Nat) (hx : x = (k : Int)) (hk : 1 ≤ k ∧ k ≤ 11) (ha : 8 ≤ a.length) (hc : c.length = a.length) (h : ∀ q, q < 8 * a.length → hasB a q = true → hasB c q = true) (hm : mayL (a ++ [x]) s = true) : mayL (c ++ [x]) s = true := by
  rw [may_at a x s k hx hk ha, List.all_eq_true] at hm
  rw [may_at c x s k hx hk (by omega), hc, List.all_eq_true]
  exact fun p hp => h p (spots_lt (by omega) hp) (hm p hp)
theorem bit_test {l : List Int} (hl : Bytes l) (p : Nat) : (bits .and .u8 (rd l ((p : Int) / 8) / 2 ^ (p % 8)) 1 == 0) = !hasB l p := by
  have e : ((p : Int) / 8) = ((p / 8 : Nat) : Int) := by omega
  obtain ⟨a, ha⟩ := Int.eq_ofNat_of_zero_le (rd_bytes hl (p / 8)).1
  have h2 := (rd_bytes hl (p / 8)).2
  unfold hasB
  rw [e, ha, Int.toNat_natCast, show ((a : Int) / 2 ^ (p % 8)) = ((a / 2 ^ (p % 8) : Nat) : Int) by simp, show (1 : Int) = ((1 : Nat) : Int) from rfl, u8_and_nat _ _ (Nat.lt_of_le_of_lt (Nat.div_le_self _ _) (by omega)) (by omega), Nat.and_one_is_mod]
  by_cases h : a / 2 ^ (p % 8) % 2 = 1
  · rw [h]; rfl
  · rw [show a / 2 ^ (p % 8) % 2 = 0 by omega]; rfl
theorem set_eq (l : List Int) (P : Nat) : l.set ((P / 8 : Nat) : Int).toNat (bits .or .u8 (rdOf (0 : Int) l ((P : Int) / 8)) ((2 : Int) ^ (P % 8) % 256)) = setB l P := by
  unfold setB
  rw [Int.toNat_natCast, show ((P : Int) / 8) = ((P / 8 : Nat) : Int) by omega]
  have : P % 8 = 0 ∨ P % 8 = 1 ∨ P % 8 = 2 ∨ P % 8 = 3 ∨ P % 8 = 4 ∨ P % 8 = 5 ∨ P % 8 = 6 ∨ P % 8 = 7 := by omega
  rcases this with e | e | e | e | e | e | e | e <;> rw [e] <;> rfl
theorem spots_succ (h j m : Nat) : spotsL h (j + 1) m = spotsL h j m ++ [prb h j m] := by simp [spotsL, List.range_succ]
theorem keys_succ (k m : Nat) (keys : List ByteArray) (i : Nat) (h : i < keys.length) (l : List Int) : (keys.take (i + 1)).foldl (keyB k m) l = keyB k m ((keys.take i).foldl (keyB k m) l) keys[i] := by
  rw [List.take_succ_eq_append_getElem h, List.foldl_append]
  rfl
theorem own_block {W : World} {base n c e : Nat} {ok : Nat → Prop} {A : Option Addr} {l : List Int} (h : Kd.R (Kd.int .u8) e W base ok (.slice A n c) l) (hn : 0 < n) : ∃ g, A = some ⟨g, 0, none⟩ ∧ base ≤ g := by
  obtain ⟨inner, hi⟩ := Kd.R_own h
  have hl := (Kd.R_reads' h).1
  obtain ⟨_, hh⟩ := hi
  rcases hh with ⟨hv, h0⟩ | ⟨g, cap, cur, hv, hb, _⟩
  · omega
  · injection hv with e1
    exact ⟨g, e1, hb⟩
theorem bit_test2 {l : List Int} (hl : Bytes l) (p : Nat) : (rd l ((p : Int) / 8) / 2 ^ (p % 8) % 2 == 0) = !hasB l p := by
  have e : ((p : Int) / 8) = ((p / 8 : Nat) : Int) := by omega
  obtain ⟨a, ha⟩ := Int.eq_ofNat_of_zero_le (rd_bytes hl (p / 8)).1
  unfold hasB
  rw [e, ha, Int.toNat_natCast, show ((a : Int) / 2 ^ (p % 8)) = ((a / 2 ^ (p % 8) : Nat) : Int) by simp]
  by_cases h : a / 2 ^ (p % 8) % 2 = 1
  · have : ((a / 2 ^ (p % 8) : Nat) : Int) % 2 = 1 := by omega
    rw [this, h]; rfl
  · have h2 : a / 2 ^ (p % 8) % 2 = 0 := by omega
    have : ((a / 2 ^ (p % 8) : Nat) : Int) % 2 = 0 := by omega
    rw [this, h2]; rfl
theorem bit_test3 {l : List Int} (hl : Bytes l) (p : Nat) : ((rd l ((p : Int) / 8) / 2 ^ (p % 8)).tmod 2 == 0) = !hasB l p := by
  rw [← bit_test2 hl p]
  have e : ((p : Int) / 8) = ((p / 8 : Nat) : Int) := by omega
  obtain ⟨a, ha⟩ := Int.eq_ofNat_of_zero_le (rd_bytes hl (p / 8)).1
  rw [e, ha, show ((a : Int) / 2 ^ (p % 8)) = ((a / 2 ^ (p % 8) : Nat) : Int) by simp]
  rfl
theorem spots_len (h k m : Nat) : (spotsL h k m).length = k := by simp [spotsL]
theorem spots_rd (h k m j : Nat) (hj : j < k) : rd ((spotsL h k m).map fun (p : Nat) => (p : Int)) (j : Int) = ((prb h j m : Nat) : Int) := by
  simp [rd, spotsL, List.getD_eq_getElem?_getD, hj]
/-- '[]byte(s)': a row that reads as s's bytes; older memory stays. -/
theorem conv_bytes {P : Program} (w : World) (src dst e : TypeId) (s : ByteArray) (hs : P.underlying src = some .string) (hd : P.underlying dst = some (.slice e)) (he : P.underlying e = some (.int .u8)) (hl : s.size ≤ 9223372036854775807) :
    ∃ A c w1, (convert src dst (.string s)).run P w = .ok (.slice A (bytesOf s).length c) w1 ∧ (bytesOf s).length ≤ c ∧ Kd.C (Kd.int .u8) w1 A (bytesOf s).length (bytesOf s) ∧ Below w.heap.size w w1 := by
  refine ⟨some ⟨w.heap.size, 0, none⟩, grownCap w s.size 0 e, w.drew.alloc (.cells (bytesRow s (grownCap w s.size 0 e)) e ((bytesRow s (grownCap w s.size 0 e)).size, (bytesRow s (grownCap w s.size 0 e)).size + 1)), ?_, ?_, ?_, ?_⟩
  · rw [bytesOf_length]
    exact run_bytes_of_string w src dst e s hs hd he
  · rw [bytesOf_length]
    exact grownCap_ge w s.size 0 e
  · refine Kd.C_of_reads (enc := Value.int .u8) (d := (0 : Int)) (h1 := fun _ => rfl) ⟨rfl, by rw [bytesOf_length]; exact hl, fun hp => ⟨_, rfl, fun i hi => ?_⟩⟩
    have hi' : i < s.size := by rwa [bytesOf_length] at hi
    have hw : (w.drew).heap.size = w.heap.size := rfl
    have hb := heap_alloc_new w.drew (.cells (bytesRow s (grownCap w s.size 0 e)) e ((bytesRow s (grownCap w s.size 0 e)).size, (bytesRow s (grownCap w s.size 0 e)).size + 1))
    rw [hw] at hb
    rw [add_plain, cell_of_row _ _ i _ _ _ hb, bytesRow_at s _ i hi']
    simp [bytesOf, List.getD_eq_getElem?_getD, List.getElem?_eq_getElem (show i < s.data.toList.length from by simpa using hi')]
  · exact below_alloc (below_drew (Below.refl _ _)) _
end Go.Proofs.YtlcohooognjmaaaDoor.Bl
