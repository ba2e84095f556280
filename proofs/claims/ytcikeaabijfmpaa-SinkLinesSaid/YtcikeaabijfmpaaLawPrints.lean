/- The walk of the statement SinkPrints. -/
import Derived.Test.YtcikeaabijfmpaaSmall
namespace Go.Proofs.Ytcikeaabijfmpaa
open Go.RowKit

theorem prt_spec {lim : Nat} (ss : List ByteArray) : ∀ {xs : List UInt8}, xs.length ≤ lim → prt lim ss xs false = if (xs ++ cat ss).length ≤ lim then (xs ++ cat ss, false) else ((xs ++ cat ss).take lim, true) := by
  induction ss with
  | nil => intro xs h; simp [prt, cat, h]
  | cons s ss ih =>
    intro xs hx
    have e : s.data.toList.length = s.size := by simp
    have ec : cat (s :: ss) = s.data.toList ++ cat ss := by simp [cat]
    by_cases h : lim < xs.length + s.size
    · have h2 : ¬ (xs ++ cat (s :: ss)).length ≤ lim := by rw [ec]; simp; omega
      rw [if_neg h2]
      simp only [prt, h, if_true, if_false, Bool.false_eq_true, ec]
      congr 1
      rw [List.take_append, List.take_of_length_le hx, List.take_append_of_le_length (by omega)]
    · simp only [prt, h, if_false, Bool.false_eq_true]
      rw [ih (by simp; omega), ec, List.append_assoc]

theorem strs_lt {w : World} {A : Option Addr} {ss : List ByteArray} (h : Strs w A ss) : 0 < ss.length → ∀ b o, A = some ⟨b, o, none⟩ → b < w.heap.size := by
  intro h0 b o hA
  obtain ⟨b', o', he, hc⟩ := h 0 _ (List.getElem?_eq_getElem h0)
  rw [hA] at he
  simp at he
  obtain ⟨rfl, rfl⟩ := he
  exact World.block_lt_of_cell? w _ hc

theorem mkS_size (l : List UInt8) : (mkS l).size = l.length := by simp [mkS, ByteArray.size]
theorem mkS_append (l m : List UInt8) : mkS (l ++ m) = mkS l ++ mkS m := by
  apply ByteArray.ext
  simp [mkS]
theorem extract_mkS (l : List UInt8) (n : Nat) : (mkS l).extract 0 n = mkS (l.take n) := by
  have := mkS_extract (mkS l) 0 n
  simp only [List.drop_zero] at this
  rw [← this]
  simp [mkS]

/-- The loop at its head. -/
structure PrAt (w : World) (sb room : Nat) (k : Nat) (all : List UInt8) (full : Bool) (wr : World) : Prop where
  ex : ∃ F, IsSink wr F sb (if full then all.take room else all) room full ∧ ∀ j, F j → w.heap.size ≤ j
  yes : full = true → room < all.length
  no : full = false → all.length ≤ room
  few : all.length ≤ 4000 * k
  keeps : Keeps (fun j => w.heap.size ≤ j) w wr

set_option maxHeartbeats 2000000 in
set_option maxRecDepth 100000 in
theorem sinkPrints_walk (w : World) (A : Option Addr) (c : Nat) (ll : List (List ByteArray)) (limit : Int) (hs : Strss w A ll) (hl : ll.length ≤ 9223372036854775807) (hm : -9223372036854775808 ≤ limit ∧ limit ≤ 9223372036854775807) :
    Calls Try.prog 3 #[.slice A ll.length c, .int .i64 limit] w fun e w' => e = .returned (.bool true) ∧ Below w.heap.size w w' := by
  have HS := hidden hs
  clear hs
  obtain ⟨room, hroom⟩ : ∃ r : Nat, max limit 0 = r := ⟨(max limit 0).toNat, by omega⟩
  have HRM := hidden hroom
  have hroom' : (room : Int) ≤ 9223372036854775807 := by omega
  clear hroom
  refine post_gen fun R hR => ?_
  cases hsm : smallB ll with
  | false =>
    have HSM := hidden hsm
    clear hsm
    go_enter Try.func3, Try.ntmps3
    go_wp2_with (first | (go_at_call 12; refine (prints_true _).mono ?_; rintro e w1 ⟨rfl, hB⟩; have HB := hidden hB; clear hB) | (go_at_call 13; refine (small_any _ A c ll (HS.out.below HB.out) hl).mono ?_; rintro e _ ⟨rfl, rfl⟩; rw [HSM.out]))
    exact hR.out _ _ ⟨rfl, HB.out⟩
  | true =>
    have HSM := hidden hsm
    clear hsm
    go_enter Try.func3, Try.ntmps3
    go_wp2_with (first | (go_at_call 12; refine (prints_true _).mono ?_; rintro e w1 ⟨rfl, hB⟩; have HB := hidden hB; clear hB) | (go_at_call 13; refine (small_any _ A c ll (HS.out.below HB.out) hl).mono ?_; rintro e _ ⟨rfl, rfl⟩; rw [HSM.out]) | (go_at_call 14; refine (sink_New limit _).mono ?_; rintro e w2 ⟨sb, SF, rfl, hS, hK, hF⟩; have HK := hidden hK; have HF := hidden hF; have HSK := hidden hS; clear hS hK hF; rw [HRM.out] at HSK))
    rw [HRM.out]
    have HP0 := hidden (show PrAt w sb room 0 [] false w2 from ⟨⟨SF, HSK.out, HF.out.ge (fun _ h => h.elim) HB.out.size⟩, by simp, by simp, by simp, (below_keeps HB.out).step (fun _ h => h.elim) HK.out⟩)
    clear HSK HK HF HB
    have hfew : ll.length ≤ 40 := by have := HSM.out; simp [smallB] at this; exact this.2
    go_loopw [7, 8, 28] (fun a f i wr => ∃ (k : Nat) (all : List UInt8) (full : Bool), k ≤ ll.length ∧ i = .int .i64 k ∧ a = .string (mkS all) ∧ f = .bool full ∧ PrAt w sb room k all full wr) (fun _ _ i _ => ll.length - (intOf i).toNat)
    case atStart => exact ⟨0, [], false, Nat.zero_le _, rfl, rfl, rfl, HP0.out⟩
    case round =>
      clear HP0
      obtain ⟨k, all, full, hk, rfl, rfl, rfl, hP⟩ := hrel
      have HP := hidden hP
      clear hP
      by_cases hlt : k < ll.length
      · have hbl := hidden (HP.out.keeps.below (Nat.le_refl _) (fun _ h => h))
        obtain ⟨ab, ao, A', c', rfl, hc0, hs0, hm', _⟩ := HS.out k _ (List.getElem?_eq_getElem hlt)
        have hc := (hbl.out.cell (p := ⟨ab, ao + k, none⟩) (World.block_lt_of_cell? w _ hc0)).trans hc0
        have hap := hidden (strs_lt hs0)
        have hs' := hs0.below hbl.out
        clear hc0 hs0
        obtain ⟨hcat, hlen⟩ := smallL_le (l := ll[k]) (by have := HSM.out; simp [smallB] at this; exact this.1 _ (List.getElem_mem _))
        generalize ll[k] = l at *
        have HS' := hidden hs'
        have hfw := HP.out.few
        clear hs'
        obtain ⟨F, hF1, hF2⟩ := HP.out.ex
        have HF1 := hidden hF1
        have HF2 := hidden hF2
        clear hF1 hF2
        have hno := hidden (fun (h0 : 0 < l.length) b o hA hF => Nat.lt_irrefl _ (Nat.lt_of_lt_of_le (hap.out h0 b o hA) (HF2.out b hF)))
        cases full with
        | true =>
          have hyes := HP.out.yes rfl
          have hle : (room : Int) ≤ (mkS all).size := by rw [mkS_size]; omega
          have hex := extract_mkS all room
          have hsz2 : (mkS (all.take room)).size = room := by rw [mkS_size, List.length_take]; omega
          go_wp2_with (first | (go_at_call 15; refine (sink_Print _ F sb _ room true A' c' l HF1.out (by omega) (by simp; omega) (by simp; omega) HS'.out hno.out hm').mono ?_; rintro e w3 ⟨F3, rfl, hS3, hK3, hF3⟩; simp only [if_true, prt_full, codeIf_true] at *; have HS3 := hidden hS3; have HK3 := hidden hK3; have HF3 := hidden hF3; clear hS3 hK3 hF3) | (go_at_call 16; refine (sink_Text _ F3 sb _ _ _ HS3.out).mono ?_; rintro e _ ⟨rfl, rfl⟩) | (go_at_call 17; refine (sink_Len _ F3 sb _ _ _ HS3.out).mono ?_; rintro e _ ⟨rfl, rfl⟩) | (go_at_call 18; refine (sink_Full _ F3 sb _ _ _ HS3.out).mono ?_; rintro e _ ⟨rfl, rfl⟩))
          refine (sink_Left_full _ F3 sb _ _ HS3.out (by omega) hroom' (by simp; omega)).mono ?_
          rintro e _ ⟨rfl, n4, rfl⟩
          have HS4 := hidden (HS3.out.keeps ((Keeps.refl (fun _ => False) w3).drewN n4) (Apart.no _))
          have HK4 := hidden (HK3.out.drewN n4)
          generalize w3.drewN n4 = w4 at *
          have hml : min room all.length = room := by omega
          go_wp2_with fail
          refine (sink_Left_full _ F3 sb _ _ HS4.out (by omega) hroom' (by simp; omega)).mono ?_
          rintro e _ ⟨rfl, n5, rfl⟩
          go_wp2
          go_roundw
          case rel =>
            refine ⟨k + 1, all, true, hlt, by go_num, rfl, rfl, ⟨⟨F3, ?_, ?_⟩, fun _ => hyes, by simp, by omega, ?_⟩⟩
            · exact HS4.out.keeps ((Keeps.refl (fun _ => False) w4).drewN n5) (Apart.no _)
            · exact HF3.out.ge HF2.out (HP.out.keeps.size)
            · exact (HP.out.keeps.step HF2.out HK4.out).drewN n5
          case measure => simp [intOf]; omega
        | false =>
          have hno' := HP.out.no rfl
          have hspec := prt_spec l hno'
          by_cases hfit : (all ++ cat l).length ≤ room
          · rw [if_pos hfit] at hspec
            have HSP := hidden hspec
            have hfit' : all.length + (cat l).length ≤ room := by simpa using hfit
            clear hspec hfit
            go_wp2_with (go_at_call 15; refine (sink_Print _ F sb _ room false A' c' l HF1.out (by omega) (by simpa using hno') (by simp; omega) HS'.out hno.out hm').mono ?_; rintro e w3 ⟨F3, rfl, hS3, hK3, hF3⟩; simp only [if_false, Bool.false_eq_true, HSP.out, codeIf_false] at *; have HS3 := hidden hS3; have HK3 := hidden hK3; have HF3 := hidden hF3; clear hS3 hK3 hF3)
            go_loopw [7, 39] (fun a j wr' => ∃ m : Nat, m ≤ l.length ∧ j = .int .i64 m ∧ a = .string (mkS (all ++ cat (l.take m))) ∧ wr' = w3) (fun _ j _ => l.length - (intOf j).toNat)
            case atStart => exact ⟨0, Nat.zero_le _, rfl, by simp [cat], rfl⟩
            case round =>
              obtain ⟨m, hm2, rfl, rfl, rfl⟩ := hrel
              by_cases hlt2 : m < l.length
              · obtain ⟨sb2, so2, rfl, hc2⟩ := (HS'.out.keeps HK3.out (hno.out (by omega))) m _ (List.getElem?_eq_getElem hlt2)
                have HT := hidden (List.take_succ_eq_append_getElem hlt2)
                have hbig : ¬ 9223372036854775807 < (mkS (all ++ cat (l.take m))).size + l[m].size := by
                  have h1 := cat_take hlt2
                  have h2 := cat_take_le l (m + 1)
                  rw [mkS_size, List.length_append]
                  omega
                go_wp2
                go_roundw
                case rel => exact ⟨m + 1, hlt2, by go_num, by rw [HT.out, cat_append, ← List.append_assoc, mkS_append (all ++ cat (l.take m))]; simp [cat, mkS], by first | rfl | trivial⟩
                case measure => simp [intOf]; omega
              · obtain rfl : m = l.length := by omega
                have hsz : (mkS (all ++ cat l)).size = all.length + (cat l).length := by rw [mkS_size, List.length_append]
                have htk := List.take_length (l := l)
                have hnr : ¬ room < all.length + (cat l).length := by omega
                go_wp2_with (first | (go_at_call 16; refine (sink_Text _ F3 sb _ _ _ HS3.out).mono ?_; rintro e _ ⟨rfl, rfl⟩) | (go_at_call 17; refine (sink_Len _ F3 sb _ _ _ HS3.out).mono ?_; rintro e _ ⟨rfl, rfl⟩) | (go_at_call 18; refine (sink_Full _ F3 sb _ _ _ HS3.out).mono ?_; rintro e _ ⟨rfl, rfl⟩))
                refine (sink_Left_room _ F3 sb _ _ HS3.out (by omega) hroom' (by simp; omega)).mono ?_
                rintro e _ ⟨rfl, n4, rfl⟩
                go_wp2
                go_roundw
                case rel =>
                  refine ⟨k + 1, all ++ cat l, false, hlt, by go_num, rfl, rfl, ⟨⟨F3, HS3.out.keeps ((Keeps.refl (fun _ => False) _).drewN n4) (Apart.no _), HF3.out.ge HF2.out HP.out.keeps.size⟩, by simp, fun _ => by simp; omega, by simp; omega, (HP.out.keeps.step HF2.out HK3.out).drewN n4⟩⟩
                case measure => simp [intOf]; omega
          · rw [if_neg hfit] at hspec
            have HSP := hidden hspec
            have hfit' : room < all.length + (cat l).length := by simpa using hfit
            clear hspec hfit
            have hle : (room : Int) ≤ (mkS (all ++ cat l)).size := by rw [mkS_size]; simp; omega
            have hex := extract_mkS (all ++ cat l) room
            have hsz2 : (mkS ((all ++ cat l).take room)).size = room := by rw [mkS_size, List.length_take]; simp; omega
            have hlt3 : ((all ++ cat l).take room).length = room := by rw [List.length_take]; simp; omega
            go_wp2_with (go_at_call 15; refine (sink_Print _ F sb _ room false A' c' l HF1.out (by omega) (by simpa using hno') (by simp; omega) HS'.out hno.out hm').mono ?_; rintro e w3 ⟨F3, rfl, hS3, hK3, hF3⟩; simp only [if_false, Bool.false_eq_true, HSP.out, codeIf_true] at *; have HS3 := hidden hS3; have HK3 := hidden hK3; have HF3 := hidden hF3; clear hS3 hK3 hF3)
            go_loopw [7, 39] (fun a j wr' => ∃ m : Nat, m ≤ l.length ∧ j = .int .i64 m ∧ a = .string (mkS (all ++ cat (l.take m))) ∧ wr' = w3) (fun _ j _ => l.length - (intOf j).toNat)
            case atStart => exact ⟨0, Nat.zero_le _, rfl, by simp [cat], rfl⟩
            case round =>
              obtain ⟨m, hm2, rfl, rfl, rfl⟩ := hrel
              by_cases hlt2 : m < l.length
              · obtain ⟨sb2, so2, rfl, hc2⟩ := (HS'.out.keeps HK3.out (hno.out (by omega))) m _ (List.getElem?_eq_getElem hlt2)
                have HT := hidden (List.take_succ_eq_append_getElem hlt2)
                have hbig : ¬ 9223372036854775807 < (mkS (all ++ cat (l.take m))).size + l[m].size := by
                  have h1 := cat_take hlt2
                  have h2 := cat_take_le l (m + 1)
                  rw [mkS_size, List.length_append]
                  omega
                go_wp2
                go_roundw
                case rel => exact ⟨m + 1, hlt2, by go_num, by rw [HT.out, cat_append, ← List.append_assoc, mkS_append (all ++ cat (l.take m))]; simp [cat, mkS], by first | rfl | trivial⟩
                case measure => simp [intOf]; omega
              · obtain rfl : m = l.length := by omega
                have hsz : (mkS (all ++ cat l)).size = all.length + (cat l).length := by rw [mkS_size, List.length_append]
                have htk := List.take_length (l := l)
                go_wp2_with (first | (go_at_call 16; refine (sink_Text _ F3 sb _ _ _ HS3.out).mono ?_; rintro e _ ⟨rfl, rfl⟩) | (go_at_call 17; refine (sink_Len _ F3 sb _ _ _ HS3.out).mono ?_; rintro e _ ⟨rfl, rfl⟩) | (go_at_call 18; refine (sink_Full _ F3 sb _ _ _ HS3.out).mono ?_; rintro e _ ⟨rfl, rfl⟩))
                refine (sink_Left_full _ F3 sb _ _ HS3.out (by omega) hroom' (by rw [hlt3]; omega)).mono ?_
                rintro e _ ⟨rfl, n4, rfl⟩
                have HS4 := hidden (HS3.out.keeps ((Keeps.refl (fun _ => False) _).drewN n4) (Apart.no _))
                go_wp2_with fail
                refine (sink_Left_full _ F3 sb _ _ HS4.out (by omega) hroom' (by rw [hlt3]; omega)).mono ?_
                rintro e _ ⟨rfl, n5, rfl⟩
                go_wp2
                go_roundw
                case rel =>
                  refine ⟨k + 1, all ++ cat l, true, hlt, by go_num, rfl, rfl, ⟨⟨F3, HS3.out.keeps ((Keeps.refl (fun _ => False) _).drewN _) (Apart.no _), HF3.out.ge HF2.out HP.out.keeps.size⟩, fun _ => by simp; omega, by simp, by simp; omega, (HP.out.keeps.step HF2.out HK3.out).drewN _⟩⟩
                case measure => simp [intOf]; omega
      · obtain rfl : k = ll.length := by omega
        go_wp2
        exact hR.out _ _ ⟨rfl, HP.out.keeps.below (Nat.le_refl _) (fun _ h => h)⟩
end Go.Proofs.Ytcikeaabijfmpaa
