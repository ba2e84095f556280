/- The walk of the statement StrLetters. -/
import Derived.Test.YtggkkonigeohhaaStrT
import Derived.Deep.CutBlock
import Derived.Deep.DeepCutAuto
namespace Go.Proofs.Ytggkkonigeohhaa
open Go.RowKit
set_option maxRecDepth 100000

theorem dropWhile_at {p : UInt8 → Bool} (n : Nat) : ∀ (l : List UInt8), n ≤ l.length → (∀ i (h : i < l.length), i < n → p l[i] = true) → (∀ h : n < l.length, p l[n] = false) → l.dropWhile p = l.drop n := by
  induction n with
  | zero =>
    intro l _ _ h
    cases l with
    | nil => rfl
    | cons c l =>
      have := h (by simp)
      simp at this
      simp [this]
  | succ n ih =>
    intro l hl h1 h2
    cases l with
    | nil => simp at hl
    | cons c l =>
      have hc := h1 0 (by simp) (by omega)
      simp only [List.getElem_cons_zero] at hc
      rw [List.dropWhile_cons, if_pos hc, List.drop_succ_cons]
      refine ih l (by simpa using hl) (fun i hi hn => ?_) (fun h => ?_)
      · have := h1 (i + 1) (by simpa using hi) (by omega)
        simpa using this
      · have := h2 (by simpa using h)
        simpa using this
theorem backL_at {l : List UInt8} {n : Nat} (hn : n ≤ l.length) (h1 : ∀ i (h : i < l.length), n ≤ i → blankB l[i] = true) (h2 : ∀ h : 0 < n, blankB (l[n - 1]'(by omega)) = false) : backL l = l.take n := by
  have := dropWhile_at (p := blankB) (l.length - n) l.reverse (by simp) (fun i hi hlt => by
    rw [List.getElem_reverse]
    exact h1 _ _ (by simp at hi; omega)) (fun h => by
    rw [List.getElem_reverse]
    simp at h
    have h3 := h2 (by omega)
    have e : l.length - 1 - (l.length - n) = n - 1 := by omega
    simpa only [e] using h3)
  rw [backL, this, List.drop_reverse]
  simp
  congr 1
  omega
theorem strip_at {l : List UInt8} {n m : Nat} (hn : n ≤ l.length) (hm : m ≤ l.length) (h1 : ∀ i (h : i < l.length), i < n → blankB l[i] = true) (h2 : ∀ h : n < l.length, blankB l[n] = false) : (l.take m).dropWhile blankB = (l.take m).drop (min n m) := by
  refine dropWhile_at _ _ (by simp; omega) (fun i hi hlt => ?_) (fun h => ?_)
  · rw [List.getElem_take]; exact h1 i _ (by omega)
  · rw [List.getElem_take]
    simp at h
    have e : min n m = n := by omega
    simpa only [e] using h2 (by omega)
set_option maxHeartbeats 1000000 in
theorem strLetters_walk (w : World) (s : ByteArray) (m : Int) (hm : w.cell? ⟨0, 0, none⟩ = some (.int .i64 m)) :
    Calls Try.prog 7 #[.string s] w fun e w' => e = .returned (.bool true) ∧ Below w.heap.size w w' := by
  have HT := hidden (texts_true w m hm)
  have LA := hidden (list_len s)
  clear hm
  refine post_gen fun R hR => ?_
  by_cases hbig : 500 < s.size
  · go_enter Try.func7, Try.ntmps7
    go_wp2_with fail
    refine HT.out.mono ?_
    rintro e w1 ⟨rfl, hK⟩
    go_wp2_with fail
    exact hR.out _ _ ⟨rfl, hK.toNew (fun _ h => h.elim)⟩
  have k1 := hidden (fun W => str_Lower s W (by omega))
  have k2 := hidden (fun W => str_Upper s W (by omega))
  have hz1 := mkS_size (s.data.toList.map (eachB 65 90 32))
  have hz2 := mkS_size (s.data.toList.map (eachB 97 122 (-32)))
  rw [List.length_map, LA.out] at hz1 hz2
  have hat1 : ∀ k (h : k < (mkS (s.data.toList.map (eachB 65 90 32))).size) (h2 : k < s.size), (mkS (s.data.toList.map (eachB 65 90 32)))[k]'h = eachB 65 90 32 (s[k]'h2) := fun k h h2 => by
    rw [← at_list _ h, ← at_list s h2]
    simp [mkS]
  have hat2 : ∀ k (h : k < (mkS (s.data.toList.map (eachB 97 122 (-32)))).size) (h2 : k < s.size), (mkS (s.data.toList.map (eachB 97 122 (-32))))[k]'h = eachB 97 122 (-32) (s[k]'h2) := fun k h h2 => by
    rw [← at_list _ h, ← at_list s h2]
    simp [mkS]
  generalize mkS (s.data.toList.map (eachB 65 90 32)) = low at *
  generalize mkS (s.data.toList.map (eachB 97 122 (-32))) = up at *
  have HAT1 := hidden hat1
  have HAT2 := hidden hat2
  have HZ1 := hidden hz1
  have HZ2 := hidden hz2
  have i1 : ((low.size : Int) != s.size) = false := by rw [hz1]; simp
  have i2 : ((up.size : Int) != s.size) = false := by rw [hz2]; simp
  clear hat1 hat2 hz1 hz2
  go_enter Try.func7, Try.ntmps7
  go_wp2_with fail
  refine HT.out.mono ?_
  rintro e w1 ⟨rfl, hK⟩
  have HK := hidden hK
  clear hK
  go_wp2_with fail
  refine (k1.out _).mono ?_
  rintro e w2 ⟨rfl, hK2⟩
  have HK2 := hidden (HK.out.trans hK2 (fun _ _ h => h))
  clear hK2 HK
  go_wp2_with fail
  refine (k2.out _).mono ?_
  rintro e w3 ⟨rfl, hK3⟩
  have HK3 := hidden (HK2.out.trans hK3 (fun _ _ h => h))
  clear hK3 HK2
  go_wp2_with fail
  go_loopw [36] (fun n wr => ∃ k : Nat, k ≤ s.size ∧ n = .int .i64 k ∧ Keeps (fun _ => False) w wr) (fun n _ => s.size - (intOf n).toNat)
  case atStart => exact ⟨0, Nat.zero_le _, rfl, HK3.out⟩
  case round =>
    clear HK3
    obtain ⟨k, hk, rfl, hK⟩ := hrel
    have HK := hidden hK
    clear hK
    by_cases hlt : k < s.size
    · have hl : k < low.size := by rw [HZ1.out]; exact hlt
      have hu : k < up.size := by rw [HZ2.out]; exact hlt
      have hv := HAT1.out k hl hlt
      have hw := HAT2.out k hu hlt
      have hc := (s[k]'hlt).toNat_lt
      have p1 : (k : Int) < s.size := by omega
      have p2 : (k : Int) < low.size := by omega
      have p3 : (k : Int) < up.size := by omega
      rcases (show (s[k]'hlt).toNat < 65 ∨ (65 ≤ (s[k]'hlt).toNat ∧ (s[k]'hlt).toNat ≤ 90) ∨ (90 < (s[k]'hlt).toNat ∧ (s[k]'hlt).toNat < 97) ∨ (97 ≤ (s[k]'hlt).toNat ∧ (s[k]'hlt).toNat ≤ 122) ∨ 122 < (s[k]'hlt).toNat by omega) with h | ⟨h, h'⟩ | ⟨h, h'⟩ | ⟨h, h'⟩ | h
      all_goals
        first
          | (have e1 : ((low[k]'hl).toNat : Int) = (s[k]'hlt).toNat + 32 := by rw [hv, eachB_in (by omega) (by omega) (by omega)]
             have g1 : (((low[k]'hl).toNat : Int) != (s[k]'hlt).toNat + 32) = false := by rw [e1]; simp
             have E1 := hidden e1
             clear e1)
          | (have e1 : ((low[k]'hl).toNat : Int) = (s[k]'hlt).toNat := by rw [hv, eachB_out (by omega)]
             have g1 : (((low[k]'hl).toNat : Int) != (s[k]'hlt).toNat) = false := by rw [e1]; simp
             have E1 := hidden e1
             clear e1)
        first
          | (have e2 : ((up[k]'hu).toNat : Int) = (s[k]'hlt).toNat - 32 := by rw [hw, eachB_in (by omega) (by omega) (by omega)]; omega
             have g2 : (((up[k]'hu).toNat : Int) != (s[k]'hlt).toNat - 32) = false := by rw [e2]; simp
             have E2 := hidden e2
             clear e2)
          | (have e2 : ((up[k]'hu).toNat : Int) = (s[k]'hlt).toNat := by rw [hw, eachB_out (by omega)]
             have g2 : (((up[k]'hu).toNat : Int) != (s[k]'hlt).toNat) = false := by rw [e2]; simp
             have E2 := hidden e2
             clear e2)
        clear hv hw
        go_wp2_with fail
        try go_quiet (fail)
        go_wp2_with fail
        go_roundw
        case rel => exact ⟨k + 1, hlt, by go_num, by first | exact HK.out.drewN _ | exact HK.out⟩
        case measure => simp [intOf]; omega
    · obtain rfl : k = s.size := by omega
      go_upto_block 2 with fail
      go_cut [9] (fun n wx => wx = wr ∧ ∃ f : Nat, f ≤ s.size ∧ n = .int .i64 f ∧ Hid (∀ i (h : i < s.data.toList.length), i < f → blankB s.data.toList[i] = true) ∧ Hid (∀ h : f < s.data.toList.length, blankB s.data.toList[f] = false))
      case first =>
        go_wp2_with fail
        have HF0 := hidden (show ∀ i (h : i < s.data.toList.length), i < 0 → blankB s.data.toList[i] = true from fun i h h2 => absurd h2 (by omega))
        go_loop [9] (fun n => ∃ f : Nat, f ≤ s.size ∧ n = .int .i64 f ∧ Hid (∀ i (h : i < s.data.toList.length), i < f → blankB s.data.toList[i] = true)) (fun n => s.size - (intOf n).toNat)
        case atStart => exact ⟨0, Nat.zero_le _, rfl, HF0⟩
        case round =>
          clear HF0
          obtain ⟨f, hf, rfl, HF⟩ := hrel
          by_cases hgo : ∃ h : f < s.size, blankB (s[f]'h) = true
          · obtain ⟨hlt, hb⟩ := hgo
            have HA := hidden (at_list s hlt)
            have HN := hidden (fun i (h : i < s.data.toList.length) (hi : i < f + 1) => show blankB s.data.toList[i] = true by
              rcases Nat.lt_succ_iff_lt_or_eq.1 hi with h1 | rfl
              · exact HF.out i h h1
              · rw [HA.out]; exact hb)
            rw [blankB_is] at hb
            rcases hb with h | ⟨h, h'⟩
            · have g1 : (((s[f]'hlt).toNat : Int) == 32) = true := by simp; omega
              have H := hidden h
              clear h
              go_wp2_with fail
              go_round
              case rel => exact ⟨f + 1, hlt, by go_num, HN⟩
              case measure => simp [intOf]; omega
            · have g1 : (((s[f]'hlt).toNat : Int) == 32) = false := by simp; omega
              go_wp2_with fail
              go_round
              case rel => exact ⟨f + 1, hlt, by go_num, HN⟩
              case measure => simp [intOf]; omega
          · have F2 := hidden (show ∀ h : f < s.data.toList.length, blankB s.data.toList[f] = false from fun h => by
              have h1 : f < s.size := by rw [← LA.out]; exact h
              rw [at_list s h1, ← Bool.not_eq_true]
              exact fun hb => hgo ⟨h1, hb⟩)
            have hcls : ¬ f < s.size ∨ ∃ h : f < s.size, (s[f]'h).toNat < 9 ∨ (13 < (s[f]'h).toNat ∧ (s[f]'h).toNat < 32) ∨ 32 < (s[f]'h).toNat := by
              by_cases h : f < s.size
              · refine .inr ⟨h, ?_⟩
                have : ¬ blankB (s[f]'h) = true := fun hb => hgo ⟨h, hb⟩
                rw [blankB_is] at this
                omega
              · exact .inl h
            clear hgo
            rcases hcls with h | ⟨hlt, h | ⟨h, h'⟩ | h⟩
            all_goals
              try have g1 : (((s[f]'hlt).toNat : Int) == 32) = false := by simp; omega
              go_wp2_with fail
              go_meet
              exact ⟨rfl, f, hf, rfl, HF, F2⟩
      case rest =>
        obtain ⟨rfl, f, hf, rfl, HF, F2⟩ := hcut
        go_upto_block 4 with fail
        go_cut [12] (fun n wx => wx = wc ∧ ∃ e : Nat, e ≤ s.size ∧ n = .int .i64 e ∧ Hid (∀ i (h : i < s.data.toList.length), e ≤ i → blankB s.data.toList[i] = true) ∧ Hid (∀ h : 0 < e, ∀ h2 : e - 1 < s.data.toList.length, blankB s.data.toList[e - 1] = false))
        case first =>
          go_wp2_with fail
          have HE0 := hidden (show ∀ i (h : i < s.data.toList.length), s.size ≤ i → blankB s.data.toList[i] = true from fun i h h2 => absurd h2 (by have := LA.out; omega))
          go_loop [12] (fun n => ∃ e : Nat, e ≤ s.size ∧ n = .int .i64 e ∧ Hid (∀ i (h : i < s.data.toList.length), e ≤ i → blankB s.data.toList[i] = true)) (fun n => (intOf n).toNat)
          case atStart => exact ⟨s.size, Nat.le_refl _, rfl, HE0⟩
          case round =>
            clear HE0
            obtain ⟨e, he, rfl, HE⟩ := hrel
            by_cases hgo : ∃ h : e - 1 < s.size, 0 < e ∧ blankB (s[e - 1]'h) = true
            · obtain ⟨hlt2, h0, hb⟩ := hgo
              have HA2 := hidden (at_list s hlt2)
              have HN2 := hidden (fun i (h : i < s.data.toList.length) (hi : e - 1 ≤ i) => show blankB s.data.toList[i] = true by
                rcases Nat.eq_or_lt_of_le hi with h1 | h1
                · subst h1; rw [HA2.out]; exact hb
                · exact HE.out i h (by omega))
              have hi2 : (e : Int) - 1 = ((e - 1 : Nat) : Int) := by omega
              rw [blankB_is] at hb
              rcases hb with h3 | ⟨h3, h3'⟩
              · have g3 : (((s[e - 1]'hlt2).toNat : Int) == 32) = true := by simp; omega
                have H3 := hidden h3
                clear h3
                go_wp2_with fail
                go_round
                case rel => exact ⟨e - 1, by omega, rfl, HN2⟩
                case measure => simp [intOf]; omega
              · have g3 : (((s[e - 1]'hlt2).toNat : Int) == 32) = false := by simp; omega
                go_wp2_with fail
                go_round
                case rel => exact ⟨e - 1, by omega, rfl, HN2⟩
                case measure => simp [intOf]; omega
            · have E2 := hidden (show ∀ h : 0 < e, ∀ h2 : e - 1 < s.data.toList.length, blankB s.data.toList[e - 1] = false from fun h h2 => by
                have h1 : e - 1 < s.size := by omega
                rw [at_list s h1, ← Bool.not_eq_true]
                exact fun hb => hgo ⟨h1, h, hb⟩)
              have hcls : e = 0 ∨ (0 < e ∧ ∃ h : e - 1 < s.size, (s[e - 1]'h).toNat < 9 ∨ (13 < (s[e - 1]'h).toNat ∧ (s[e - 1]'h).toNat < 32) ∨ 32 < (s[e - 1]'h).toNat) := by
                by_cases h : 0 < e
                · have h1 : e - 1 < s.size := by omega
                  refine .inr ⟨h, h1, ?_⟩
                  have : ¬ blankB (s[e - 1]'h1) = true := fun hb => hgo ⟨h1, h, hb⟩
                  rw [blankB_is] at this
                  omega
                · exact .inl (by omega)
              clear hgo
              rcases hcls with h3 | ⟨h0, hlt3, h3⟩
              · subst h3
                go_wp2_with fail
                go_meet
                exact ⟨rfl, 0, he, rfl, HE, E2⟩
              · have hi2 : (e : Int) - 1 = ((e - 1 : Nat) : Int) := by omega
                have g3 : (((s[e - 1]'hlt3).toNat : Int) == 32) = false := by simp; omega
                rcases h3 with h3 | ⟨h3, h3'⟩ | h3
                all_goals
                  go_wp2_with fail
                  go_meet
                  exact ⟨rfl, e, he, rfl, HE, E2⟩
        case rest =>
          obtain ⟨rfl, e, he, rfl, HE, E2⟩ := hcut
          have kF := hidden (by
            have := fun W => str_Front s W (by omega)
            rw [dropWhile_at f _ (by rw [LA.out]; exact hf) HF.out F2.out, mkS_drop] at this
            exact this)
          have kB := hidden (by
            have := fun W => str_Back s W (by omega)
            rw [backL_at (by rw [LA.out]; exact he) HE.out (fun h => E2.out h _), show mkS (s.data.toList.take e) = s.extract 0 e from by have := mkS_extract s 0 e; rwa [List.drop_zero] at this] at this
            exact this)
          have kS := hidden (by
            have := fun W => str_Strip s W (by omega)
            rw [backL_at (by rw [LA.out]; exact he) HE.out (fun h => E2.out h _), strip_at (by rw [LA.out]; exact hf) (by rw [LA.out]; exact he) HF.out F2.out, mkS_extract] at this
            exact this)
          by_cases hfe : e < f
          · rw [show min f e = e by omega] at kS
            go_wp2_with fail
            go_quiet (first | (go_at_call 21; exact Calls.quiet_of_same ((kF.out _).mono fun _ _ ⟨h1, h2⟩ => ⟨h1, h2.symm⟩)) | (go_at_call 22; exact Calls.quiet_of_same ((kB.out _).mono fun _ _ ⟨h1, h2⟩ => ⟨h1, h2.symm⟩)) | (go_at_call 23; exact Calls.quiet_of_same ((kS.out _).mono fun _ _ ⟨h1, h2⟩ => ⟨h1, h2.symm⟩)))
            go_wp2_with fail
            refine hR.out _ _ ⟨show Ending.returned (.bool _) = .returned (.bool _) from ret_bool ?_, (HK.out.drewN _).toNew (fun _ h => h.elim)⟩
            simp [show (min (f : Int) (e : Int)).toNat = e by omega]
          · rw [show min f e = f by omega] at kS
            go_wp2_with fail
            go_quiet (first | (go_at_call 21; exact Calls.quiet_of_same ((kF.out _).mono fun _ _ ⟨h1, h2⟩ => ⟨h1, h2.symm⟩)) | (go_at_call 22; exact Calls.quiet_of_same ((kB.out _).mono fun _ _ ⟨h1, h2⟩ => ⟨h1, h2.symm⟩)) | (go_at_call 23; exact Calls.quiet_of_same ((kS.out _).mono fun _ _ ⟨h1, h2⟩ => ⟨h1, h2.symm⟩)))
            go_wp2_with fail
            refine hR.out _ _ ⟨show Ending.returned (.bool _) = .returned (.bool _) from ret_bool ?_, (HK.out.drewN _).toNew (fun _ h => h.elim)⟩
            simp [show (min (f : Int) (e : Int)).toNat = f by omega]
end Go.Proofs.Ytggkkonigeohhaa
