/- Layer 1 (num): a number as it is written, and read: magnitude, In (to the base 10), Text, Leading. -/
import Derived.Test.YtmjkglmkckofgaaNum
namespace Go.Proofs.Ytmjkglmkckofgaa
open Go.RowKit
set_option maxRecDepth 100000

def digs : ByteArray := ⟨#[48, 49, 50, 51, 52, 53, 54, 55, 56, 57, 97, 98, 99, 100, 101, 102, 103, 104, 105, 106, 107, 108, 109, 110, 111, 112, 113, 114, 115, 116, 117, 118, 119, 120, 121, 122]⟩
/-- A number's digits ahead of some bytes. -/
def dec (m : Nat) (acc : List UInt8) : List UInt8 := if m < 10 then UInt8.ofNat (48 + m % 10) :: acc else dec (m / 10) (UInt8.ofNat (48 + m % 10) :: acc)
termination_by m
decreasing_by omega
def textI (a : Int) : List UInt8 := if a < 0 then 45 :: dec a.natAbs [] else dec a.natAbs []
theorem digs_at : ∀ n, n < 10 → digs.data.toList.getD n 0 = UInt8.ofNat (48 + n) := by decide
theorem digs_get (n : Nat) (h : n < 10) (h2 : n < digs.size) : digs[n]'h2 = UInt8.ofNat (48 + n) := by
  rw [← at_list digs h2, ← digs_at n h, List.getD_eq_getElem?_getD, List.getElem?_eq_getElem (by rw [list_len]; exact h2)]
  rfl
theorem dec_next {k m : Nat} (h : m < 10 ^ (20 - k)) (hm : 10 ≤ m) : k ≤ 18 ∧ m / 10 < 10 ^ (20 - (k + 1)) := by
  have h1 : k ≤ 18 := by
    by_cases hk : k ≤ 18
    · exact hk
    · have h2 : 10 ^ (20 - k) ≤ 10 ^ 1 := Nat.pow_le_pow_right (by decide) (by omega)
      omega
  refine ⟨h1, ?_⟩
  have e : 20 - k = (20 - (k + 1)) + 1 := by omega
  rw [e, Nat.pow_succ] at h
  exact Nat.div_lt_of_lt_mul (by omega)
theorem num_magnitude (x : Int) (w : World) (h1 : -9223372036854775808 ≤ x) (h2 : x ≤ 9223372036854775807) : Calls Try.prog 54 #[.int .i64 x] w fun e w' => e = .returned (.int .u64 x.natAbs) ∧ w = w' := by
  refine post_gen fun R hR => ?_
  by_cases h0 : x < 0
  · go_enter Try.func54, Try.ntmps54
    go_wp2_with fail
    refine hR.out _ _ ⟨show Ending.returned (.int .u64 _) = .returned (.int .u64 _) from ret_int ?_, rfl⟩
    rw [IntKind.wrap_u64, IntKind.wrap_u64]
    omega
  · go_enter Try.func54, Try.ntmps54
    go_wp2_with fail
    refine hR.out _ _ ⟨show Ending.returned (.int .u64 _) = .returned (.int .u64 _) from ret_int ?_, rfl⟩
    omega
def z65 : Array Value := Array.replicate 65 (.int .u8 0)
theorem zero65 (w : World) : (zeroValue 78).run Try.prog w = .ok (.agg z65) w := by kernel_rfl
/-- The 65 bytes, the last ones written. -/
structure OutAt (w : World) (g : Nat) (acc : List UInt8) (cs : Array Value) : Prop where
  blk : w.heap[g]? = some (.cells cs 78 (0, 0))
  size : cs.size = 65
  last : cs.toList.drop (65 - acc.length) = byteCells acc
theorem OutAt.put {w : World} {g : Nat} {acc : List UInt8} {cs : Array Value} (h : OutAt w g acc cs) (c : UInt8) (n : Nat) (hn : n + acc.length + 1 = 65) : OutAt (w.setCell ⟨g, n, none⟩ (.int .u8 c.toNat)) g (c :: acc) (cs.setIfInBounds n (.int .u8 c.toNat)) := by
  refine ⟨blk_set h.blk _ _, by simp [h.size], ?_⟩
  have hs : cs.toList.length = 65 := by simp [h.size]
  rw [Array.toList_setIfInBounds, List.length_cons, show 65 - (acc.length + 1) = n by omega]
  rw [List.drop_eq_getElem_cons (by rw [List.length_set]; omega), List.getElem_set_self, List.drop_set_of_lt (by omega), show n + 1 = 65 - acc.length by omega, h.last]
  rfl
theorem slice65 (g n : Nat) (h : n < 65) (W : World) : (Instr.sliceAt 78 (.pointer (some ⟨g, 0, none⟩)) (some (.int .i64 (n : Int))) none none).run Try.prog W = .ok (.slice (some ⟨g, n, none⟩) (65 - n) (65 - n)) W := by
  have hal : Try.prog.arrayLen 78 = 65 := by simp [Program.arrayLen, Try.underlying78]
  rw [run_sliceAt_array_l W 78 ⟨g, 0, none⟩ (by simp [Program.arrayLen, Program.elem, Try.underlying78]) .i64 (n : Int) (by omega) (by rw [hal]; omega)]
  have he : Try.prog.elem 78 = 5 := by simp [Program.elem, Try.underlying78]
  rw [he, Try.sizeOf5, hal]
  simp only [Result.andThen_ok, slicedAt, Int.toNat_natCast]
  rw [if_neg (by omega), add_at]
  simp
theorem OutAt.text {w : World} {g : Nat} {L : List UInt8} {cs : Array Value} (h : OutAt w g L cs) (n : Nat) (hn : n + L.length = 65) : (convert 63 9 (.slice (some ⟨g, n, none⟩) (65 - n) (65 - n))).run Try.prog w = .ok (.string (mkS L)) w := by
  have e : 65 - n = L.length := by omega
  rw [e]
  refine run_convert_bytes_back (P := Try.prog) w 63 9 5 ⟨g, n, none⟩ L.length L Try.underlying63 Try.underlying5 Try.underlying9 (fun j hj => ?_)
  rw [add_at, blk_cell h.blk]
  have h2 := congrArg (fun l => l[j]?) h.last
  simp only [List.getElem?_drop, byteCells, List.getElem?_map, List.getElem?_eq_getElem hj, Option.map_some] at h2
  rw [show 65 - L.length + j = n + j by omega] at h2
  rw [← Array.getElem?_toList]
  exact h2
set_option maxHeartbeats 1000000 in
theorem num_In (x : Int) (w : World) (h1 : -9223372036854775808 ≤ x) (h2 : x ≤ 9223372036854775807) :
    Calls Try.prog 45 #[.int .i64 x, .int .i64 10] w fun e w' => e = .returned (.tuple #[.string (mkS (textI x)), .int .i64 0]) ∧ Keeps (fun _ => False) w w' := by
  have HM := hidden (fun W => num_magnitude x W h1 h2)
  have hz := zero65
  have hy : x.natAbs < 10 ^ (20 - 0) := by simp; omega
  have HY := hidden hy
  have HX := hidden (show x < 0 → textI x = 45 :: dec x.natAbs [] from fun h => if_pos h)
  have HX2 := hidden (show ¬ x < 0 → textI x = dec x.natAbs [] from fun h => if_neg h)
  have hy64 : x.natAbs ≤ 9223372036854775808 := by omega
  clear hy
  generalize x.natAbs = y at *
  have HR0 := hidden (show dec y [] = dec y [] from rfl)
  generalize hr : dec y [] = r at HX HX2 HR0
  have HR := hidden hr
  clear hr HR0
  refine post_gen fun R hR => ?_
  go_enter Try.func45, Try.ntmps45
  go_wp2_with fail
  refine (HM.out _).mono ?_
  rintro e _ ⟨rfl, rfl⟩
  go_wp2_with fail
  have HO0 := hidden (show OutAt (w.alloc (.cells z65 78)) w.heap.size [] z65 from ⟨blk_new _ _, by simp [z65], by simp [z65, byteCells]⟩)
  have HK0 := hidden ((Keeps.refl (fun _ => False) w).alloc (.cells z65 78))
  clear hz HM
  go_loopw [6, 9] (fun mm a wr => ∃ (m : Nat) (acc : List UInt8) (cs : Array Value), mm = .int .u64 m ∧ a = .int .i64 ((65 - acc.length : Nat) : Int) ∧ acc.length ≤ 19 ∧ m < 18446744073709551616 ∧ Hid (m < 10 ^ (20 - acc.length)) ∧ OutAt wr w.heap.size acc cs ∧ Hid (dec m acc = r) ∧ Keeps (fun _ => False) w wr) (fun mm _ _ => (intOf mm).toNat)
  case atStart => exact ⟨y, [], z65, rfl, rfl, Nat.zero_le _, by omega, HY, HO0.out, HR, HK0.out⟩
  case round =>
    clear HO0 HK0
    obtain ⟨m, acc, cs, rfl, rfl, hacc, hm, HL, hO, HD, hK⟩ := hrel
    have HO := hidden hO
    have HK := hidden hK
    have hg := blk_lt hO.blk
    have i1 : ((65 - acc.length : Nat) : Int) - 1 = ((64 - acc.length : Nat) : Int) := by omega
    obtain ⟨v0, hv0⟩ : ∃ v, cs[64 - acc.length]? = some v := ⟨_, Array.getElem?_eq_getElem (by rw [hO.size]; omega)⟩
    have c0 := (blk_cell hO.blk (64 - acc.length)).trans hv0
    clear hv0
    have f0 := blk_frozen hO.blk (64 - acc.length)
    have hmm : m % 10 < 10 := Nat.mod_lt _ (by decide)
    have hds : m % 10 < digs.size := by show m % 10 < 36; omega
    have HC := hidden (digs_get (m % 10) hmm hds)
    obtain ⟨c, hc⟩ : ∃ c, c = UInt8.ofNat (48 + m % 10) := ⟨_, rfl⟩
    have hds2 : m % 10 < (⟨#[48, 49, 50, 51, 52, 53, 54, 55, 56, 57, 97, 98, 99, 100, 101, 102, 103, 104, 105, 106, 107, 108, 109, 110, 111, 112, 113, 114, 115, 116, 117, 118, 119, 120, 121, 122]⟩ : ByteArray).size := hds
    have hv : (⟨#[48, 49, 50, 51, 52, 53, 54, 55, 56, 57, 97, 98, 99, 100, 101, 102, 103, 104, 105, 106, 107, 108, 109, 110, 111, 112, 113, 114, 115, 116, 117, 118, 119, 120, 121, 122]⟩ : ByteArray)[m % 10]'hds2 = c := HC.out.trans hc.symm
    have HCC := hidden hc
    clear hc
    have HP := hidden (HO.out.put c (64 - acc.length) (by omega))
    clear hO hK
    by_cases hlt : m < 10
    · have q1 : ((m : Int) / 10 == 0) = true := by simp; omega
      have hfin : dec m acc = c :: acc := by rw [dec, if_pos hlt, HCC.out]
      have HFIN := hidden hfin
      clear hfin
      obtain ⟨v1, hv1⟩ : ∃ v, cs[64 - acc.length - 1]? = some v := ⟨_, Array.getElem?_eq_getElem (by rw [HO.out.size]; omega)⟩
      have c1 := (blk_cell HO.out.blk (64 - acc.length - 1)).trans hv1
      have f1 := blk_frozen HO.out.blk (64 - acc.length - 1)
      have i2 : ((64 - acc.length : Nat) : Int) - 1 = ((64 - acc.length - 1 : Nat) : Int) := by omega
      have j1 : 64 - acc.length ≤ 65 := by omega
      clear hv1
      by_cases hneg : x < 0
      · have hp2 := HP.out.put 45 (64 - acc.length - 1) (by simp; omega)
        rw [show (((45 : UInt8).toNat : Nat) : Int) = 45 from rfl] at hp2
        have HP2 := hidden hp2
        clear hp2
        have hsl := slice65 w.heap.size (64 - acc.length - 1) (by omega)
        have htx := HP2.out.text (64 - acc.length - 1) (by simp; omega)
        go_wp2_with fail
        refine hR.out _ _ ⟨?_, (HK.out.setCell (p := ⟨w.heap.size, 64 - acc.length, none⟩) (fun h => absurd h (Nat.lt_irrefl _)) _).setCell (p := ⟨w.heap.size, 64 - acc.length - 1, none⟩) (fun h => absurd h (Nat.lt_irrefl _)) _⟩
        rw [HX.out hneg, ← HD.out, HFIN.out]; rfl
      · have hsl := slice65 w.heap.size (64 - acc.length) (by omega)
        have htx := HP.out.text (64 - acc.length) (by simp; omega)
        go_wp2_with fail
        refine hR.out _ _ ⟨?_, HK.out.setCell (p := ⟨w.heap.size, 64 - acc.length, none⟩) (fun h => absurd h (Nat.lt_irrefl _)) _⟩
        rw [HX2.out (by omega), ← HD.out, HFIN.out]; rfl
    · have q1 : ((m : Int) / 10 == 0) = false := by simp; omega
      have HNX := hidden (dec_next HL.out (by omega))
      have HDN := hidden (show dec m acc = dec (m / 10) (c :: acc) by rw [dec, if_neg hlt, HCC.out])
      go_wp2_with fail
      go_roundw
      case rel =>
        exact ⟨m / 10, c :: acc, _, by go_num, by rw [List.length_cons, show 65 - (acc.length + 1) = 64 - acc.length by omega], by have := HNX.out.1; simp; omega, by omega, hidden HNX.out.2, HP.out, hidden (by rw [← HDN.out]; exact HD.out), HK.out.setCell (p := ⟨w.heap.size, 64 - acc.length, none⟩) (fun h => absurd h (Nat.lt_irrefl _)) _⟩
      case measure => simp [intOf]; omega

/-- One digit more. -/
def dv (n : Int) (c : UInt8) : Int := wrap64 (wrap64 (n * 10) + ((c.toNat : Int) - 48))
def sgn : List UInt8 → Nat × Bool
  | [] => (0, false)
  | c :: _ => if c.toNat = 45 then (1, true) else if c.toNat = 43 then (1, false) else (0, false)
/-- The number with which a text begins, and how many bytes it has. -/
def leadL (l : List UInt8) : Int × Nat :=
  if ((l.drop (sgn l).1).takeWhile digitB).length = 0 then (0, 0)
  else (if (sgn l).2 then wrap64 (-(((l.drop (sgn l).1).takeWhile digitB).foldl dv 0)) else ((l.drop (sgn l).1).takeWhile digitB).foldl dv 0, (sgn l).1 + ((l.drop (sgn l).1).takeWhile digitB).length)
theorem takeWhile_at {q : UInt8 → Bool} (n : Nat) : ∀ (l : List UInt8), n ≤ l.length → (∀ i (h : i < l.length), i < n → q l[i] = true) → (∀ h : n < l.length, q l[n] = false) → l.takeWhile q = l.take n := by
  induction n with
  | zero =>
    intro l _ _ h
    cases l with
    | nil => rfl
    | cons c l =>
      have := h (by simp)
      simp at this
      simp [this]
  | succ n ih =>
    intro l hl h1 h2
    cases l with
    | nil => simp at hl
    | cons c l =>
      have hc := h1 0 (by simp) (by omega)
      simp only [List.getElem_cons_zero] at hc
      rw [List.takeWhile_cons, if_pos hc, List.take_succ_cons]
      congr 1
      refine ih l (by simpa using hl) (fun i hi hn => ?_) (fun h => ?_)
      · have := h1 (i + 1) (by simpa using hi) (by omega)
        simpa using this
      · have := h2 (by simpa using h)
        simpa using this
theorem lead_at {l : List UInt8} {a p : Nat} {b : Bool} (hs : sgn l = (a, b)) (hp : a ≤ p) (hl : p ≤ l.length) (h1 : ∀ i (h : i < l.length), a ≤ i → i < p → digitB l[i] = true) (h2 : ∀ h : p < l.length, digitB l[p] = false) :
    leadL l = if p = a then (0, 0) else (if b then wrap64 (-(((l.take p).drop a).foldl dv 0)) else ((l.take p).drop a).foldl dv 0, p) := by
  have e : (l.drop a).takeWhile digitB = (l.take p).drop a := by
    rw [takeWhile_at (p - a) (l.drop a) (by simp; omega) (fun i hi hlt => by rw [List.getElem_drop]; exact h1 _ _ (by omega) (by omega)) (fun h => by
      rw [List.getElem_drop]
      simp at h
      have := h2 (by omega)
      simpa only [show a + (p - a) = p by omega] using this), List.drop_take]
  have e2 : ((l.take p).drop a).length = p - a := by simp; omega
  unfold leadL
  rw [hs]
  simp only [e, e2]
  by_cases h : p = a
  · rw [if_pos h, if_pos (by omega)]
  · rw [if_neg h, if_neg (by omega), show a + (p - a) = p by omega]
set_option maxHeartbeats 1000000 in
theorem num_Leading (s : ByteArray) (w : World) (hs : s.size ≤ 140737488351232) : Calls Try.prog 21 #[.string s] w fun e w' => e = .returned (.tuple #[.int .i64 (leadL s.data.toList).1, .int .i64 (leadL s.data.toList).2]) ∧ w = w' := by
  have LA := hidden (list_len s)
  refine post_gen fun R hR => ?_
  by_cases h0 : 0 < s.size
  · have d0 : decide (0 < (s.size : Int)) = true := by simp; omega
    have HCO := hidden (list_cons h0)
    by_cases h1 : (s[0]'h0).toNat = 45
    · have i1 : (((s[0]'h0).toNat : Int) == 45) = true := by simp; omega
      have H1 := hidden h1
      clear h1
      have HS := hidden (show sgn s.data.toList = (1, true) from by have := HCO.out; rw [List.drop_zero] at this; rw [this, sgn, if_pos H1.out])
      go_enter Try.func21, Try.ntmps21
      go_wp2_with fail
      go_loop [4, 6] (fun a n => ∃ (p : Nat) (v : Int), 1 ≤ p ∧ p ≤ s.size ∧ a = .int .i64 p ∧ n = .int .i64 v ∧ Hid (v = ((s.data.toList.take p).drop 1).foldl dv 0) ∧ Hid (∀ i (h : i < s.data.toList.length), 1 ≤ i → i < p → digitB s.data.toList[i] = true)) (fun a _ => s.size - (intOf a).toNat)
      case atStart => exact ⟨1, 0, Nat.le_refl _, by omega, rfl, rfl, hidden (by simp), hidden (fun i _ h1 h2 => by exfalso; omega)⟩
      case round =>
        obtain ⟨p, v, hp, hps, rfl, rfl, HV, HA⟩ := hrel
        by_cases hgo : ∃ h : p < s.size, digitB (s[p]'h) = true
        · obtain ⟨hlt, hd⟩ := hgo
          have HG := hidden (at_list s hlt)
          have HD := hidden hd
          rw [digitB_is] at hd
          obtain ⟨hd1, hd2⟩ := hd
          go_wp2_with fail
          go_round
          case rel =>
            refine ⟨p + 1, _, by omega, hlt, by go_num, rfl, hidden ?_, hidden ?_⟩
            · rw [List.take_succ_eq_append_getElem (by rw [LA.out]; exact hlt), List.drop_append_of_le_length (by rw [List.length_take, LA.out]; omega), List.foldl_append, ← HV.out, HG.out]
              rfl
            · intro i h h1 h2
              rcases Nat.lt_succ_iff_lt_or_eq.1 h2 with h3 | rfl
              · exact HA.out i h h1 h3
              · rw [HG.out]; exact HD.out
          case measure => simp [intOf]; omega
        · have hcls : ¬ p < s.size ∨ ∃ h : p < s.size, (s[p]'h).toNat < 48 ∨ 57 < (s[p]'h).toNat := by
            by_cases h : p < s.size
            · refine .inr ⟨h, ?_⟩
              have h2 : ¬ digitB (s[p]'h) = true := fun hb => hgo ⟨h, hb⟩
              rw [digitB_is] at h2
              omega
            · exact .inl h
          have hL := lead_at (a := 1) (b := true) HS.out hp (by rw [LA.out]; exact hps) HA.out (fun h => by
            have h1 : p < s.size := by rw [← LA.out]; exact h
            rw [at_list s h1, ← Bool.not_eq_true]
            exact fun hb => hgo ⟨h1, hb⟩)
          rw [← HV.out] at hL
          have HL := hidden hL
          clear hL hgo
          by_cases hpa : p = 1
          · have q1 : ((p : Int) == 1) = true := by simp; omega
            have hl : leadL s.data.toList = (0, 0) := by rw [HL.out, if_pos hpa]
            rw [hl] at hR
            have HPA := hidden hpa
            clear hpa
            rcases hcls with h | ⟨hlt, h | h⟩
            all_goals
              first
                | (exfalso; omega)
                | (go_wp2_with fail
                   exact hR.out _ _ ⟨rfl, rfl⟩)
          · have q1 : ((p : Int) == 1) = false := by simp; omega
            have hl : leadL s.data.toList = (wrap64 (-v), p) := by rw [HL.out, if_neg hpa]; rfl
            rw [hl] at hR
            rcases hcls with h | ⟨hlt, h | h⟩
            all_goals
              first
                | (exfalso; omega)
                | (go_wp2_with fail
                   exact hR.out _ _ ⟨rfl, rfl⟩)
    · have i1 : (((s[0]'h0).toNat : Int) == 45) = false := by simp; omega
      by_cases h2 : (s[0]'h0).toNat = 43
      · have i2 : (((s[0]'h0).toNat : Int) == 43) = true := by simp; omega
        have H1 := hidden h1
        have H2 := hidden h2
        clear h1 h2
        have HS := hidden (show sgn s.data.toList = (1, false) from by have := HCO.out; rw [List.drop_zero] at this; rw [this, sgn, if_neg H1.out, if_pos H2.out])
        go_enter Try.func21, Try.ntmps21
        go_wp2_with fail
        go_loop [4, 6] (fun a n => ∃ (p : Nat) (v : Int), 1 ≤ p ∧ p ≤ s.size ∧ a = .int .i64 p ∧ n = .int .i64 v ∧ Hid (v = ((s.data.toList.take p).drop 1).foldl dv 0) ∧ Hid (∀ i (h : i < s.data.toList.length), 1 ≤ i → i < p → digitB s.data.toList[i] = true)) (fun a _ => s.size - (intOf a).toNat)
        case atStart => exact ⟨1, 0, Nat.le_refl _, by omega, rfl, rfl, hidden (by simp), hidden (fun i _ h1 h2 => by exfalso; omega)⟩
        case round =>
          obtain ⟨p, v, hp, hps, rfl, rfl, HV, HA⟩ := hrel
          by_cases hgo : ∃ h : p < s.size, digitB (s[p]'h) = true
          · obtain ⟨hlt, hd⟩ := hgo
            have HG := hidden (at_list s hlt)
            have HD := hidden hd
            rw [digitB_is] at hd
            obtain ⟨hd1, hd2⟩ := hd
            go_wp2_with fail
            go_round
            case rel =>
              refine ⟨p + 1, _, by omega, hlt, by go_num, rfl, hidden ?_, hidden ?_⟩
              · rw [List.take_succ_eq_append_getElem (by rw [LA.out]; exact hlt), List.drop_append_of_le_length (by rw [List.length_take, LA.out]; omega), List.foldl_append, ← HV.out, HG.out]
                rfl
              · intro i h h1 h2
                rcases Nat.lt_succ_iff_lt_or_eq.1 h2 with h3 | rfl
                · exact HA.out i h h1 h3
                · rw [HG.out]; exact HD.out
            case measure => simp [intOf]; omega
          · have hcls : ¬ p < s.size ∨ ∃ h : p < s.size, (s[p]'h).toNat < 48 ∨ 57 < (s[p]'h).toNat := by
              by_cases h : p < s.size
              · refine .inr ⟨h, ?_⟩
                have h2 : ¬ digitB (s[p]'h) = true := fun hb => hgo ⟨h, hb⟩
                rw [digitB_is] at h2
                omega
              · exact .inl h
            have hL := lead_at (a := 1) (b := false) HS.out hp (by rw [LA.out]; exact hps) HA.out (fun h => by
              have h1 : p < s.size := by rw [← LA.out]; exact h
              rw [at_list s h1, ← Bool.not_eq_true]
              exact fun hb => hgo ⟨h1, hb⟩)
            rw [← HV.out] at hL
            have HL := hidden hL
            clear hL hgo
            by_cases hpa : p = 1
            · have q1 : ((p : Int) == 1) = true := by simp; omega
              have hl : leadL s.data.toList = (0, 0) := by rw [HL.out, if_pos hpa]
              rw [hl] at hR
              have HPA := hidden hpa
              clear hpa
              rcases hcls with h | ⟨hlt, h | h⟩
              all_goals
                go_wp2_with fail
                exact hR.out _ _ ⟨rfl, rfl⟩
            · have q1 : ((p : Int) == 1) = false := by simp; omega
              have hl : leadL s.data.toList = (v, p) := by rw [HL.out, if_neg hpa]; rfl
              rw [hl] at hR
              rcases hcls with h | ⟨hlt, h | h⟩
              all_goals
                first
                  | (exfalso; omega)
                  | (go_wp2_with fail
                     exact hR.out _ _ ⟨rfl, rfl⟩)
      · have i2 : (((s[0]'h0).toNat : Int) == 43) = false := by simp; omega
        have H1 := hidden h1
        have H2 := hidden h2
        clear h1 h2
        have HS := hidden (show sgn s.data.toList = (0, false) from by have := HCO.out; rw [List.drop_zero] at this; rw [this, sgn, if_neg H1.out, if_neg H2.out])
        go_enter Try.func21, Try.ntmps21
        go_wp2_with fail
        go_loop [4, 6] (fun a n => ∃ (p : Nat) (v : Int), 0 ≤ p ∧ p ≤ s.size ∧ a = .int .i64 p ∧ n = .int .i64 v ∧ Hid (v = ((s.data.toList.take p).drop 0).foldl dv 0) ∧ Hid (∀ i (h : i < s.data.toList.length), 0 ≤ i → i < p → digitB s.data.toList[i] = true)) (fun a _ => s.size - (intOf a).toNat)
        case atStart => exact ⟨0, 0, Nat.le_refl _, by omega, rfl, rfl, hidden (by simp), hidden (fun i _ h1 h2 => by exfalso; omega)⟩
        case round =>
          obtain ⟨p, v, hp, hps, rfl, rfl, HV, HA⟩ := hrel
          by_cases hgo : ∃ h : p < s.size, digitB (s[p]'h) = true
          · obtain ⟨hlt, hd⟩ := hgo
            have HG := hidden (at_list s hlt)
            have HD := hidden hd
            rw [digitB_is] at hd
            obtain ⟨hd1, hd2⟩ := hd
            go_wp2_with fail
            go_round
            case rel =>
              refine ⟨p + 1, _, by omega, hlt, by go_num, rfl, hidden ?_, hidden ?_⟩
              · rw [List.take_succ_eq_append_getElem (by rw [LA.out]; exact hlt), List.drop_append_of_le_length (by rw [List.length_take, LA.out]; omega), List.foldl_append, ← HV.out, HG.out]
                rfl
              · intro i h h1 h2
                rcases Nat.lt_succ_iff_lt_or_eq.1 h2 with h3 | rfl
                · exact HA.out i h h1 h3
                · rw [HG.out]; exact HD.out
            case measure => simp [intOf]; omega
          · have hcls : ¬ p < s.size ∨ ∃ h : p < s.size, (s[p]'h).toNat < 48 ∨ 57 < (s[p]'h).toNat := by
              by_cases h : p < s.size
              · refine .inr ⟨h, ?_⟩
                have h2 : ¬ digitB (s[p]'h) = true := fun hb => hgo ⟨h, hb⟩
                rw [digitB_is] at h2
                omega
              · exact .inl h
            have hL := lead_at (a := 0) (b := false) HS.out hp (by rw [LA.out]; exact hps) HA.out (fun h => by
              have h1 : p < s.size := by rw [← LA.out]; exact h
              rw [at_list s h1, ← Bool.not_eq_true]
              exact fun hb => hgo ⟨h1, hb⟩)
            rw [← HV.out] at hL
            have HL := hidden hL
            clear hL hgo
            by_cases hpa : p = 0
            · have q1 : ((p : Int) == 0) = true := by simp; omega
              have hl : leadL s.data.toList = (0, 0) := by rw [HL.out, if_pos hpa]
              rw [hl] at hR
              have HPA := hidden hpa
              clear hpa
              rcases hcls with h | ⟨hlt, h | h⟩
              all_goals
                go_wp2_with fail
                exact hR.out _ _ ⟨rfl, rfl⟩
            · have q1 : ((p : Int) == 0) = false := by simp; omega
              have hl : leadL s.data.toList = (v, p) := by rw [HL.out, if_neg hpa]; rfl
              rw [hl] at hR
              rcases hcls with h | ⟨hlt, h | h⟩
              all_goals
                first
                  | (exfalso; omega)
                  | (go_wp2_with fail
                     exact hR.out _ _ ⟨rfl, rfl⟩)
  · obtain rfl := str_none h0
    rw [show leadL (⟨#[]⟩ : ByteArray).data.toList = (0, 0) from by decide] at hR
    go_enter Try.func21, Try.ntmps21
    go_wp2_with fail
    go_loop [4, 6] (fun a n => a = .int .i64 0 ∧ n = .int .i64 0) (fun _ _ => 0)
    case atStart => exact ⟨rfl, rfl⟩
    case round =>
      obtain ⟨rfl, rfl⟩ := hrel
      go_wp2_with fail
      exact hR.out _ _ ⟨rfl, rfl⟩
theorem num_Text (x : Int) (w : World) (h1 : -9223372036854775808 ≤ x) (h2 : x ≤ 9223372036854775807) : Calls Try.prog 17 #[.int .i64 x] w fun e w' => e = .returned (.string (mkS (textI x))) ∧ Keeps (fun _ => False) w w' := by
  have k := hidden (fun W => num_In x W h1 h2)
  refine post_gen fun R hR => ?_
  go_enter Try.func17, Try.ntmps17
  go_wp2_with fail
  refine (k.out _).mono ?_
  rintro e w1 ⟨rfl, hK⟩
  go_wp2_with fail
  exact hR.out _ _ ⟨rfl, hK⟩
end Go.Proofs.Ytmjkglmkckofgaa
