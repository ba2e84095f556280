/- The walk of the statement StrQuotes. -/
import Derived.Test.YtggkkonigeohhaaStrT
import Derived.Deep.CutBlock
import Derived.Deep.DeepCutAuto
namespace Go.Proofs.Ytggkkonigeohhaa
open Go.RowKit
set_option maxRecDepth 100000

theorem dig_hexd : ∀ n, n < 16 → dig (hexd n) = n := by decide
theorem hexd_is : ∀ n, n < 16 → 32 ≤ (hexd n).toNat ∧ (hexd n).toNat ≤ 126 ∧ (hexd n).toNat ≠ 34 ∧ (hexd n).toNat ≠ 92 := by decide
/-- What a byte is turned to, read back. -/
theorem unescF_esc (c : UInt8) (f at' : Nat) (r : List UInt8) (hf : (esc c ++ r).length ≤ f) : unescF f at' (esc c ++ r) = match unescF f (at' + (esc c).length) r with | .inl t => .inl (c :: t) | .inr k => .inr k := by
  have hc : c.toNat < 256 := c.toNat_lt
  obtain ⟨e1, e2, e3, e4, e5, e6⟩ := esc_is c
  have key : ∀ (d : List UInt8) (v : Nat), v = c.toNat → beh (d ++ r) = (v, d.length) → 0 < d.length → (92 :: (d ++ r)).length ≤ f → unescF f at' (92 :: (d ++ r)) = match unescF f (at' + (d.length + 1)) r with | .inl t => .inl (c :: t) | .inr k => .inr k := by
    intro d v hv hb h0 hl
    obtain ⟨f, rfl⟩ : ∃ g, f = g + 1 := ⟨f - 1, by simp at hl; omega⟩
    have h92 : (92 : UInt8).toNat = 92 := rfl
    simp only [unescF, if_pos h92, hb]
    rw [if_neg (by omega), List.drop_left, show at' + 1 + d.length = at' + (d.length + 1) by omega, unescF_more f _ r (f + 1) (by simp at hl; omega) (by simp at hl; omega), hv, UInt8.ofNat_toNat]
    rfl
  by_cases h1 : c.toNat = 34 ∨ c.toNat = 39 ∨ c.toNat = 92
  · rw [e1 h1] at hf ⊢
    exact key [c] c.toNat rfl (by rw [List.singleton_append, (beh_is c r).1 h1]; rfl) (by simp) hf
  · by_cases h2 : c.toNat = 10
    · rw [e2 h2] at hf ⊢
      exact key [110] 10 h2.symm rfl (by simp) hf
    · by_cases h3 : c.toNat = 13
      · rw [e3 h3] at hf ⊢
        exact key [114] 13 h3.symm rfl (by simp) hf
      · by_cases h4 : c.toNat = 9
        · rw [e4 h4] at hf ⊢
          exact key [116] 9 h4.symm rfl (by simp) hf
        · by_cases h5 : 32 ≤ c.toNat ∧ c.toNat < 127
          · rw [e5 h1 h5] at hf ⊢
            obtain ⟨f, rfl⟩ : ∃ g, f = g + 1 := ⟨f - 1, by simp at hf; omega⟩
            have h92 : ¬ c.toNat = 92 := by omega
            simp only [List.singleton_append, unescF, if_neg h92, List.length_singleton]
            rw [unescF_more f _ r (f + 1) (by simp at hf; omega) (by simp at hf; omega)]
            rfl
          · rw [e6 (by omega) h5] at hf ⊢
            refine key [120, hexd (c.toNat / 16), hexd (c.toNat % 16)] c.toNat rfl ?_ (by simp) hf
            have h120 : (120 : UInt8).toNat = 120 := rfl
            rw [List.cons_append, (beh_is 120 _).2.2.2.2.2.1 h120]
            simp only [List.cons_append, List.nil_append, hx, dig_hexd _ (show c.toNat / 16 < 16 by omega), dig_hexd _ (show c.toNat % 16 < 16 by omega)]
            rw [if_pos (by omega), if_pos (by omega)]
            simp
            omega
theorem unesc_flat (l : List UInt8) : ∀ (f at' : Nat), (l.flatMap esc).length ≤ f → unescF f at' (l.flatMap esc) = .inl l := by
  induction l with
  | nil => intro f at' _; cases f <;> simp [unescF]
  | cons c l ih =>
    intro f at' h
    rw [List.flatMap_cons] at h ⊢
    rw [unescF_esc c f at' _ h, ih f _ (by rw [List.length_append] at h; omega)]
theorem unesc_esc (l : List UInt8) : unesc (l.flatMap esc) = .inl l := unesc_flat l _ _ (Nat.le_refl _)
/-- Bytes that may stand between quotes: none that can't be printed, and a quote behind a backslash alone. -/
def Inner (l : List UInt8) : Prop := ∀ i (h : i < l.length), 32 ≤ l[i].toNat ∧ l[i].toNat ≤ 126 ∧ (l[i].toNat = 34 → ∃ h : 0 < i, (l[i - 1]'(by omega)).toNat = 92)
theorem byte_in {P : Prop} (n : UInt8) (c : UInt8) (h : c = n) (h1 : 32 ≤ n.toNat := by decide) (h2 : n.toNat ≤ 126 := by decide) (h3 : n.toNat ≠ 34 := by decide) : 32 ≤ c.toNat ∧ c.toNat ≤ 126 ∧ (c.toNat = 34 → P) := by
  subst h
  exact ⟨h1, h2, fun h => absurd h h3⟩
theorem inner_esc (c : UInt8) : Inner (esc c) := by
  have hc : c.toNat < 256 := c.toNat_lt
  obtain ⟨e1, e2, e3, e4, e5, e6⟩ := esc_is c
  have two : ∀ d : UInt8, 32 ≤ d.toNat → d.toNat ≤ 126 → Inner [92, d] := by
    intro d h1 h2 i hi
    match i, hi with
    | 0, _ => exact byte_in 92 _ rfl
    | 1, _ => exact ⟨h1, h2, fun _ => ⟨by decide, rfl⟩⟩
  by_cases h1 : c.toNat = 34 ∨ c.toNat = 39 ∨ c.toNat = 92
  · rw [e1 h1]; exact two c (by omega) (by omega)
  · by_cases h2 : c.toNat = 10
    · rw [e2 h2]; exact two 110 (by decide) (by decide)
    · by_cases h3 : c.toNat = 13
      · rw [e3 h3]; exact two 114 (by decide) (by decide)
      · by_cases h4 : c.toNat = 9
        · rw [e4 h4]; exact two 116 (by decide) (by decide)
        · by_cases h5 : 32 ≤ c.toNat ∧ c.toNat < 127
          · rw [e5 h1 h5]
            intro i hi
            obtain rfl : i = 0 := by simpa using hi
            exact ⟨h5.1, by simp; omega, fun h => absurd (.inl h) h1⟩
          · rw [e6 (by omega) h5]
            have d1 := hexd_is (c.toNat / 16) (by omega)
            have d2 := hexd_is (c.toNat % 16) (by omega)
            intro i hi
            match i, hi with
            | 0, _ => exact byte_in 92 _ rfl
            | 1, _ => exact byte_in 120 _ rfl
            | 2, _ => exact ⟨d1.1, d1.2.1, fun h => absurd h d1.2.2.1⟩
            | 3, _ => exact ⟨d2.1, d2.2.1, fun h => absurd h d2.2.2.1⟩
theorem inner_append {a b : List UInt8} (ha : Inner a) (hb : Inner b) : Inner (a ++ b) := by
  intro i hi
  by_cases h : i < a.length
  · have := ha i h
    rw [List.getElem_append_left h]
    refine ⟨this.1, this.2.1, fun h34 => ?_⟩
    obtain ⟨h0, h1⟩ := this.2.2 h34
    exact ⟨h0, by rw [List.getElem_append_left (by omega)]; exact h1⟩
  · have hi' : i - a.length < b.length := by rw [List.length_append] at hi; omega
    have := hb (i - a.length) hi'
    rw [List.getElem_append_right (by omega)]
    refine ⟨this.1, this.2.1, fun h34 => ?_⟩
    obtain ⟨h0, h1⟩ := this.2.2 h34
    refine ⟨by omega, ?_⟩
    rw [List.getElem_append_right (by omega)]
    simpa only [show i - 1 - a.length = i - a.length - 1 by omega] using h1
theorem inner_flat (l : List UInt8) : Inner (l.flatMap esc) := by
  induction l with
  | nil => intro i hi; simp at hi
  | cons c l ih => rw [List.flatMap_cons]; exact inner_append (inner_esc c) ih

theorem quote_last (l : List UInt8) (n : Nat) (hn : n = (l.flatMap esc).length + 1) (h : n < (mkS (quoteL l)).size) : ((mkS (quoteL l))[n]'h).toNat = 34 := by
  have e : (quoteL l)[n]? = some 34 := by subst hn; simp only [quoteL, List.getElem?_cons_succ]; simp
  obtain ⟨_, e2⟩ := List.getElem?_eq_some_iff.1 e
  rw [← at_list _ h]
  exact congrArg UInt8.toNat e2
theorem mkS_cat (a b : List UInt8) : mkS a ++ mkS b = mkS (a ++ b) := by apply ByteArray.ext; simp [mkS]
set_option maxHeartbeats 1000000 in
theorem strQuotes_walk (w : World) (s : ByteArray) (m : Int) (hm : w.cell? ⟨0, 0, none⟩ = some (.int .i64 m)) :
    Calls Try.prog 3 #[.string s] w fun e w' => e = .returned (.bool true) ∧ Below w.heap.size w w' := by
  have HT := hidden (texts_true w m hm)
  have LA := hidden (list_len s)
  clear hm
  refine post_gen fun R hR => ?_
  by_cases hbig : 500 < s.size
  · go_enter Try.func3, Try.ntmps3
    go_wp2_with fail
    refine HT.out.mono ?_
    rintro e w1 ⟨rfl, hK⟩
    go_wp2_with fail
    exact hR.out _ _ ⟨rfl, hK.toNew (fun _ h => h.elim)⟩
  have hlen := flat_esc_length s.data.toList
  rw [LA.out] at hlen
  have k1 := fun W => str_Quote s W (by omega)
  have hI := inner_flat s.data.toList
  have hU := unesc_esc s.data.toList
  have hz := mkS_size (quoteL s.data.toList)
  have hzI := mkS_size (s.data.toList.flatMap esc)
  have hz2 : (mkS (quoteL s.data.toList)).size = (mkS (s.data.toList.flatMap esc)).size + 2 := by rw [hz, hzI]; simp [quoteL]
  have hex : (mkS (quoteL s.data.toList)).extract 1 ((mkS (quoteL s.data.toList)).size - 1) = mkS (s.data.toList.flatMap esc) := by
    rw [← mkS_extract, hz2, hzI]
    show mkS (((quoteL s.data.toList).take _).drop 1) = _
    simp [quoteL]
  have hq0 : ∀ h : 0 < (mkS (quoteL s.data.toList)).size, ((mkS (quoteL s.data.toList))[0]'h).toNat = 34 := fun h => by
    rw [← at_list _ h]; rfl
  have hq1 : ∀ h : (mkS (quoteL s.data.toList)).size - 1 < (mkS (quoteL s.data.toList)).size, ((mkS (quoteL s.data.toList))[(mkS (quoteL s.data.toList)).size - 1]'h).toNat = 34 := fun h => by
    exact quote_last s.data.toList _ (by omega) h
  have hat : ∀ i (h : i < (mkS (s.data.toList.flatMap esc)).size) (h2 : i < (s.data.toList.flatMap esc).length), (mkS (s.data.toList.flatMap esc))[i]'h = (s.data.toList.flatMap esc)[i]'h2 := fun i h h2 => by
    rw [← at_list _ h]; rfl
  have k2 := fun W => str_Unescape (mkS (s.data.toList.flatMap esc)) W (by omega)
  rw [show (mkS (s.data.toList.flatMap esc)).data.toList = s.data.toList.flatMap esc from rfl, hU] at k2
  simp only [unAns, mkS_list] at k2
  have K1 := hidden k1
  have K2 := hidden k2
  have HI := hidden hI
  have HAT := hidden hat
  have HZ := hidden hz2
  have HZI := hidden hzI
  have HEX := hidden hex
  have HQ0 := hidden hq0
  have HQ1 := hidden hq1
  clear k1 k2 hI hat hz hex hq0 hq1 hU
  have hz3 : (mkS (quoteL s.data.toList)).size ≤ 2002 := by omega
  have hz4 : 2 ≤ (mkS (quoteL s.data.toList)).size := by omega
  have hz5 : (mkS (s.data.toList.flatMap esc)).size ≤ 2000 := by omega
  clear hz2 hzI
  generalize mkS (quoteL s.data.toList) = q at *
  generalize hin : mkS (s.data.toList.flatMap esc) = inn at *
  have HIN := hidden hin
  clear hin
  have g0 : (((q[0]'(by omega)).toNat : Int) == 34) = true := by rw [HQ0.out]; rfl
  have g1 : (((q[0]'(by omega)).toNat : Int) != 34) = false := by rw [HQ0.out]; rfl
  have g2 : (((q[q.size - 1]'(by omega)).toNat : Int) == 34) = true := by rw [HQ1.out]; rfl
  have g3 : (((q[q.size - 1]'(by omega)).toNat : Int) != 34) = false := by rw [HQ1.out]; rfl
  have g4 : (q.size : Int) - 1 = ((q.size - 1 : Nat) : Int) := by omega
  have hqi1 : inn.size + 2 ≤ q.size := by have := HZ.out; omega
  have hqi2 : q.size ≤ inn.size + 2 := by have := HZ.out; omega
  have d2 : decide ((q.size : Int) < 2) = false := by simp; omega
  go_enter Try.func3, Try.ntmps3
  go_wp2_with fail
  refine HT.out.mono ?_
  rintro e w1 ⟨rfl, hK⟩
  have HK := hidden hK
  clear hK
  go_wp2_with fail
  refine (K1.out _).mono ?_
  rintro e w2 ⟨rfl, hK⟩
  have HK2 := hidden (HK.out.trans hK (fun _ _ h => h))
  clear hK HK
  go_wp2_with fail
  rw [HEX.out]
  go_loop [40] (fun n => ∃ k : Nat, k ≤ inn.size ∧ n = .int .i64 k) (fun n => inn.size - (intOf n).toNat)
  case atStart => exact ⟨0, Nat.zero_le _, rfl⟩
  case round =>
    obtain ⟨k, hk, rfl⟩ := hrel
    by_cases hlt : k < inn.size
    · have hlt2 : k < (s.data.toList.flatMap esc).length := by rw [← HZI.out]; exact hlt
      have hA := HAT.out k hlt hlt2
      obtain ⟨h1, h2, h3⟩ := HI.out k hlt2
      rw [← hA] at h1 h2 h3
      have r1 : ¬ (((inn[k]'hlt).toNat : Int) < 32) := by omega
      have r2 : ¬ (126 < ((inn[k]'hlt).toNat : Int)) := by omega
      have HA := hidden hA
      clear hA
      by_cases h34 : (inn[k]'hlt).toNat = 34
      · obtain ⟨h0, h92⟩ := h3 h34
        have hk1 : k - 1 < inn.size := by omega
        rw [← HAT.out (k - 1) hk1 (by omega)] at h92
        have e1 : (((inn[k]'hlt).toNat : Int) == 34) = true := by simp; omega
        have e2 : (((inn[k - 1]'hk1).toNat : Int) == 92) = true := by simp; omega
        have e3 : (((inn[k - 1]'hk1).toNat : Int) != 92) = false := by simp; omega
        have e4 : ((k : Int) == 0) = false := by simp; omega
        have e5 : (k : Int) - 1 = ((k - 1 : Nat) : Int) := by omega
        clear h3 h34 h92
        go_wp2_with fail
        go_round
        case rel => exact ⟨k + 1, hlt, by go_num⟩
        case measure => simp [intOf]; omega
      · have e1 : (((inn[k]'hlt).toNat : Int) == 34) = false := by simp; omega
        clear h3 h34
        go_wp2_with fail
        go_round
        case rel => exact ⟨k + 1, hlt, by go_num⟩
        case measure => simp [intOf]; omega
    · obtain rfl : k = inn.size := by omega
      go_wp2_with fail
      refine (K2.out _).mono ?_
      rintro e w3 ⟨rfl, hK⟩
      have HK3 := hidden (HK2.out.trans hK (fun _ _ h => h))
      clear hK HK2
      go_wp2_with fail
      have HF0 := hidden (FaultAt.new w3 0 0)
      have HK4 := hidden (HK3.out.alloc (.cells #[.int .i64 0, .int .i64 0] 26))
      have hz9 : w3.heap.size < (w3.alloc (.cells #[.int .i64 0, .int .i64 0] 26)).heap.size := by simp
      generalize w3.alloc (.cells #[.int .i64 0, .int .i64 0] 26) = w4 at *
      go_loopw [8, 78] (fun a n wr => ∃ k : Nat, k ≤ s.size ∧ n = .int .i64 k ∧ a = .string (mkS ((s.data.toList.take k).flatMap esc)) ∧ Keeps (fun _ => False) w4 wr) (fun _ n _ => s.size - (intOf n).toNat)
      case atStart => exact ⟨0, Nat.zero_le _, rfl, rfl, Keeps.refl _ _⟩
      case round =>
        obtain ⟨k, hk2, rfl, rfl, hK⟩ := hrel
        have HK := hidden hK
        have hsz := hK.size
        obtain ⟨a0, a1, -, -⟩ := (show FaultAt wr w3.heap.size 0 0 from hK.heap HF0.out (fun h => h)).cells
        clear hK
        by_cases hlt2 : k < s.size
        · have hfl := flat_esc_length (s.data.toList.take k)
          rw [List.length_take, LA.out] at hfl
          have hm1 := mkS_size ((s.data.toList.take k).flatMap esc)
          have hm2 := mkS_size (esc (s[k]'hlt2))
          have hel := esc_length (s[k]'hlt2)
          have hb1 : (mkS ((s.data.toList.take k).flatMap esc)).size ≤ 2000 := by omega
          have hb2 : (mkS (esc (s[k]'hlt2))).size ≤ 4 := by omega
          have HT2 := hidden (flat_esc_take (l := s.data.toList) (k := k) (by rw [LA.out]; exact hlt2))
          have HA2 := hidden (at_list s hlt2)
          clear hfl hm1 hm2 hel
          go_wp2_with fail
          refine (str_Escape (s[k]'hlt2) _).mono ?_
          rintro e w5 ⟨rfl, hK5⟩
          have HK5 := hidden (HK.out.trans hK5 (fun _ _ h => h))
          clear hK5
          go_wp2_with fail
          go_roundw
          case rel => exact ⟨k + 1, hlt2, by go_num, by rw [HT2.out, HA2.out, mkS_cat], HK5.out⟩
          case measure => simp [intOf]; omega
        · obtain rfl : k = s.size := by omega
          rw [show s.data.toList.take s.size = s.data.toList from List.take_of_length_le (by rw [LA.out]; exact Nat.le_refl _), HIN.out]
          go_wp2_with fail
          exact hR.out _ _ ⟨rfl, (HK4.out.trans HK.out (fun _ _ h => h)).toNew (fun _ h => h.elim)⟩
end Go.Proofs.Ytggkkonigeohhaa
