/- The walk of the statement SinkBuilds. -/
import Derived.Test.YtcikeaabijfmpaaLawPrints
namespace Go.Proofs.Ytcikeaabijfmpaa
open Go.RowKit

theorem addl_fits (ss : List ByteArray) : ∀ {xs : List UInt8}, xs.length + (cat ss).length ≤ 1048576 → addl ss xs false = (xs ++ cat ss, false) := by
  induction ss with
  | nil => intro xs _; simp [addl, cat]
  | cons s ss ih =>
    intro xs h
    have e : s.data.size = s.size := rfl
    have ec : cat (s :: ss) = s.data.toList ++ cat ss := by simp [cat]
    rw [ec] at h ⊢
    simp at h
    have h2 : ¬ 1048576 < xs.length + s.size := by omega
    simp only [addl, h2, if_false, Bool.false_eq_true]
    rw [ih (by simp; omega), List.append_assoc]
theorem join_cat (ss : List ByteArray) : Lib.join (ss.map (·.data.toList)) [] = cat ss := by
  cases ss with
  | nil => rfl
  | cons s r =>
    rw [List.map_cons, Lib.join_cons]
    simp [Lib.joinTail, cat, List.flatMap_def, Function.comp_def]
theorem strs_join (w : World) (A : Option Addr) (c : Nat) (ss : List ByteArray) (h : Strs w A ss) (hc : ss.length ≤ c) (hN : ss.length ≤ 140737488355328) (hlen : (cat ss).length ≤ 140737488355328) :
    Calls Try.prog 49 #[.slice A ss.length c, .string ⟨#[]⟩] w fun e w' => e = .returned (.string (mkS (cat ss))) ∧ Below w.heap.size w w' := by
  cases hx : ss with
  | nil => exact (Try.strings_Join_none A c ⟨#[]⟩ w).mono (by rintro e w' ⟨rfl, rfl⟩; exact ⟨rfl, Below.refl _ _⟩)
  | cons s r =>
    rw [← hx]
    have h0 : 0 < ss.length := by simp [hx]
    obtain ⟨b, o, rfl, h1⟩ := h 0 _ (List.getElem?_eq_getElem h0)
    refine (Try.strings_Join b o c ss ⟨#[]⟩ w ?_ ?_ hN hc (by rw [join_cat]; exact hlen)).mono ?_
    · intro j x hj
      obtain ⟨b', o', he, hc⟩ := h j x hj
      simp at he
      obtain ⟨rfl, rfl⟩ := he
      exact hc
    · exact World.block_lt_of_cell? w _ h1
    · rintro e w' ⟨rfl, hb⟩
      refine ⟨?_, hb⟩
      rw [join_cat]; rfl
theorem Strs.keeps' {w w1 : World} {S : Nat → Prop} {A : Option Addr} {ss : List ByteArray} (h : Strs w A ss) (hk : Keeps S w w1) (hn : 0 < ss.length → ∀ b o, A = some ⟨b, o, none⟩ → ¬ S b) : Strs w1 A ss := fun i s hi => by
  obtain ⟨b, o, rfl, hc⟩ := h i s hi
  exact ⟨b, o, rfl, hk.cell hc (hn (by have := (List.getElem?_eq_some_iff.1 hi).1; omega) b o rfl)⟩
theorem IsBld.below {w w1 : World} {F : Nat → Prop} {b : Nat} {xs : List UInt8} {long : Bool} (h : IsBld w F b xs long) (hb : Below w.heap.size w w1) : IsBld w1 F b xs long :=
  h.keeps (Keeps.of_below hb) (fun k hk h2 => by have := h.inw k hk; omega)

theorem hF3' (w : World) {wr : World} {F F3 : Nat → Prop} (hs : w.heap.size ≤ wr.heap.size) (h2 : ∀ j, F j → w.heap.size ≤ j) (h3 : Fresh F F3 wr) : ∀ j, F3 j → w.heap.size ≤ j := h3.ge h2 hs
theorem rep120 (n : Nat) (w : World) (hn : n ≤ 1048580) : Calls Try.prog 51 #[.string ⟨#[120]⟩, .int .i64 n] w fun e w' => ∃ y : ByteArray, e = .returned (.string y) ∧ y.size = n ∧ Below w.heap.size w w' :=
  (Try.strings_Repeat ⟨#[120]⟩ n w (by omega) (by simp [ByteArray.size]; omega)).mono (by
    rintro e w' ⟨rfl, hb⟩
    refine ⟨_, rfl, ?_, hb⟩
    have := Lib.repeatL_length [120] n
    simpa [ByteArray.size] using this)
/-- The loop at its head. -/
structure BdAt (w : World) (sb : Nat) (ll : List (List ByteArray)) (k : Nat) (wr : World) : Prop where
  ex : ∃ F, IsBld wr F sb (cat (ll.take k).flatten) false ∧ ∀ j, F j → w.heap.size ≤ j
  few : (cat (ll.take k).flatten).length ≤ 4000 * k
  keeps : Keeps (fun j => w.heap.size ≤ j) w wr
theorem flat_take {ll : List (List ByteArray)} {k : Nat} (h : k < ll.length) : cat (ll.take (k + 1)).flatten = cat (ll.take k).flatten ++ cat ll[k] := by
  rw [List.take_succ_eq_append_getElem h]
  simp only [List.flatten_append, cat_append]
  simp

set_option maxHeartbeats 2000000 in
set_option maxRecDepth 100000 in
theorem sinkBuilds_walk (w : World) (A : Option Addr) (c : Nat) (ll : List (List ByteArray)) (great : Int) (hs : Strss w A ll) (hl : ll.length ≤ 9223372036854775807) (hm : -9223372036854775808 ≤ great ∧ great ≤ 9223372036854775807) :
    Calls Try.prog 11 #[.slice A ll.length c, .int .i64 great] w fun e w' => e = .returned (.bool true) ∧ Below w.heap.size w w' := by
  have HS := hidden hs
  clear hs
  refine post_gen fun R hR => ?_
  cases hsm : smallB ll with
  | false =>
    have HSM := hidden hsm
    clear hsm
    go_enter Try.func11, Try.ntmps11
    go_wp2_with (first | (go_at_call 12; refine (prints_true _).mono ?_; rintro e w1 ⟨rfl, hB⟩; have HB := hidden hB; clear hB) | (go_at_call 13; refine (small_any _ A c ll (HS.out.below HB.out) hl).mono ?_; rintro e _ ⟨rfl, rfl⟩; rw [HSM.out]))
    exact hR.out _ _ ⟨rfl, HB.out⟩
  | true =>
    have HSM := hidden hsm
    clear hsm
    by_cases h2 : great < 0
    · go_enter Try.func11, Try.ntmps11
      go_wp2_with (first | (go_at_call 12; refine (prints_true _).mono ?_; rintro e w1 ⟨rfl, hB⟩; have HB := hidden hB; clear hB) | (go_at_call 13; refine (small_any _ A c ll (HS.out.below HB.out) hl).mono ?_; rintro e _ ⟨rfl, rfl⟩; rw [HSM.out]))
      exact hR.out _ _ ⟨rfl, HB.out⟩
    by_cases h3 : 3 < great
    · go_enter Try.func11, Try.ntmps11
      go_wp2_with (first | (go_at_call 12; refine (prints_true _).mono ?_; rintro e w1 ⟨rfl, hB⟩; have HB := hidden hB; clear hB) | (go_at_call 13; refine (small_any _ A c ll (HS.out.below HB.out) hl).mono ?_; rintro e _ ⟨rfl, rfl⟩; rw [HSM.out]))
      exact hR.out _ _ ⟨rfl, HB.out⟩
    obtain ⟨g, rfl⟩ := Int.eq_ofNat_of_zero_le (show 0 ≤ great by omega)
    go_enter Try.func11, Try.ntmps11
    go_wp2_with (first | (go_at_call 12; refine (prints_true _).mono ?_; rintro e w1 ⟨rfl, hB⟩; have HB := hidden hB; clear hB) | (go_at_call 13; refine (small_any _ A c ll (HS.out.below HB.out) hl).mono ?_; rintro e _ ⟨rfl, rfl⟩; rw [HSM.out]))
    have HP0 := hidden (show BdAt w w1.heap.size ll 0 (w1.alloc (.cells #[.slice none 0 0, .bool false] 73)) from ⟨⟨_, by simpa [cat] using IsBld.new w1, fun j hj => by have := HB.out.size; omega⟩, by simp [cat], (below_keeps HB.out).alloc _⟩)
    clear HB
    have hfew : ll.length ≤ 40 := by have := HSM.out; simp [smallB] at this; exact this.2
    go_loopw [6, 28] (fun a i wr => ∃ (k : Nat), k ≤ ll.length ∧ i = .int .i64 k ∧ a = .string (mkS (cat (ll.take k).flatten)) ∧ BdAt w w1.heap.size ll k wr) (fun _ i _ => ll.length - (intOf i).toNat)
    case atStart => exact ⟨0, Nat.zero_le _, rfl, by simp [cat, mkS], HP0.out⟩
    case round =>
      clear HP0
      obtain ⟨k, hk, rfl, rfl, hP⟩ := hrel
      have HP := hidden hP
      have hfw := hP.few
      have hbl := hidden (hP.keeps.below (Nat.le_refl _) (fun _ h => h))
      obtain ⟨F, hF1, hF2⟩ := hP.ex
      have HF1 := hidden hF1
      have HF2 := hidden hF2
      clear hF1 hF2 hP
      by_cases hlt : k < ll.length
      · obtain ⟨ab, ao, A', c', rfl, hc0, hs0, hm', hcap⟩ := HS.out k _ (List.getElem?_eq_getElem hlt)
        have hc := (hbl.out.cell (p := ⟨ab, ao + k, none⟩) (World.block_lt_of_cell? w _ hc0)).trans hc0
        have hap := hidden (strs_lt hs0)
        have HS' := hidden (hs0.below hbl.out)
        clear hc0 hs0
        obtain ⟨hcat, hlen⟩ := smallL_le (l := ll[k]) (by have := HSM.out; simp [smallB] at this; exact this.1 _ (List.getElem_mem _))
        have HFT := hidden (flat_take hlt)
        generalize ll[k] = l at *
        have hno := hidden (fun (h0 : 0 < l.length) b o hA hF => Nat.lt_irrefl _ (Nat.lt_of_lt_of_le (hap.out h0 b o hA) (HF2.out b hF)))
        have HAD := hidden (addl_fits l (xs := cat (ll.take k).flatten) (by omega))
        have hz1 := mkS_size (cat (ll.take k).flatten)
        have hz2 := mkS_size (cat l)
        have hbig : ¬ 9223372036854775807 < (cat (ll.take k).flatten).length + (cat l).length := by omega
        go_wp2_with (first | (go_at_call 48; refine (builder_Add _ F _ _ false A' c' l HF1.out (by omega) HS'.out hno.out hm').mono ?_; rintro e w3 ⟨F3, rfl, hS3, hK3, hF3⟩; simp only [HAD.out, codeIf_false] at *; have HS3 := hidden hS3; have HK3 := hidden hK3; have HF3 := hidden hF3; clear hS3 hK3 hF3) | (go_at_call 49; refine (strs_join _ A' c' l (HS'.out.keeps' HK3.out hno.out) hcap (by omega) (by omega)).mono ?_; rintro e w4 ⟨rfl, hB4⟩; have HB4 := hidden hB4; clear hB4))
        go_roundw
        case rel =>
          have hB3 := hF3' w hbl.out.size HF2.out HF3.out
          refine ⟨k + 1, hlt, by go_num, by rw [HFT.out, mkS_append], ⟨⟨F3, ?_, hB3⟩, by rw [HFT.out]; simp; omega, ?_⟩⟩
          · rw [HFT.out]; exact HS3.out.below HB4.out
          · have h5 := HP.out.keeps.step HF2.out HK3.out
            exact h5.step (fun k hk => Nat.le_trans h5.size hk) (Keeps.of_below HB4.out)
        case measure => simp [intOf]; omega
      · obtain rfl : k = ll.length := by omega
        have htk := List.take_length (l := ll)
        generalize hall : cat (ll.take ll.length).flatten = all at *
        have hz := mkS_size all
        clear hall htk
        have HF2' := HF2
        by_cases hg : g = 0
        · subst hg
          go_wp2_with (first | (go_at_call 50; refine (builder_Text _ F _ _ HF1.out).mono ?_; rintro e _ ⟨rfl, rfl⟩))
          rw [show (1048576 : Int) - all.length = ((1048576 - all.length : Nat) : Int) by omega]
          refine (rep120 (1048576 - all.length) _ (by omega)).mono ?_
          rintro e w3 ⟨y, rfl, hy, hB3⟩
          have HF3 := hidden (HF1.out.below hB3)
          have HK3 := hidden (HP.out.keeps.step (fun k hk => Nat.le_trans hbl.out.size hk) (Keeps.of_below hB3))
          have hys : (cat [y]).length = 1048576 - all.length := by simp [cat, hy]
          have hs3 := hB3.size
          clear hB3
          go_wp2_with fail
          refine (builder_Add _ F _ _ false (some ⟨w3.heap.size, 0, none⟩) 1 [y] (HF3.out.alloc _) (by omega) (Strs.lit w3 _ _) (lit_apart HF3.out.inw) (by simp)).mono ?_
          rintro e w4 ⟨F4, rfl, hS4, hK4, hF4⟩
          rw [addl_fits [y] (by omega)] at *
          have HS4 := hidden hS4
          have HK4 := hidden ((HK3.out.alloc _).step HF2.out hK4)
          have HYS := hidden hys
          clear hS4 hK4 hF4 hys
          rw [codeIf_false]
          have hz4 : (mkS (all ++ cat [y])).size = 1048576 := by rw [mkS_size, List.length_append, HYS.out]; omega
          have hpre : Lib.hasPrefix (mkS (all ++ cat [y])).data.toList (mkS all).data.toList = true := by
            rw [Lib.hasPrefix, List.isPrefixOf_iff_prefix]
            exact ⟨cat [y], by simp [mkS]⟩
          go_wp2_with (first | (go_at_call 50; refine (builder_Text _ F4 _ _ HS4.out).mono ?_; rintro e _ ⟨rfl, rfl⟩) | (go_at_call 52; refine (Try.strings_HasPrefix _ _ _).mono ?_; rintro e _ ⟨rfl, rfl⟩; rw [hpre]))
          exact hR.out _ _ ⟨rfl, HK4.out.below (Nat.le_refl _) (fun _ h => h)⟩
        · have hg1 : ((g : Int) == 0) = false := by simp; omega
          go_wp2_with (first | (go_at_call 50; refine (builder_Text _ F _ _ HF1.out).mono ?_; rintro e _ ⟨rfl, rfl⟩))
          rw [show (1048576 : Int) - all.length + g = ((1048576 - all.length + g : Nat) : Int) by omega]
          refine (rep120 (1048576 - all.length + g) _ (by omega)).mono ?_
          rintro e w3 ⟨y, rfl, hy, hB3⟩
          have HF3 := hidden (HF1.out.below hB3)
          have HK3 := hidden (HP.out.keeps.step (fun k hk => Nat.le_trans hbl.out.size hk) (Keeps.of_below hB3))
          have hys : (cat [y]).length = 1048576 - all.length + g := by simp [cat, hy]
          have hs3 := hB3.size
          clear hB3
          go_wp2_with fail
          refine (builder_Add _ F _ _ false (some ⟨w3.heap.size, 0, none⟩) 1 [y] (HF3.out.alloc _) (by omega) (Strs.lit w3 _ _) (lit_apart HF3.out.inw) (by simp)).mono ?_
          rintro e w4 ⟨F4, rfl, hS4, hK4, hF4⟩
          rw [show addl [y] all false = (all, true) from addl_over (ss := [y]) (k := 0) (by simp) (by simp; omega)] at *
          have HS4 := hidden hS4
          have HK4 := hidden ((HK3.out.alloc _).step HF2.out hK4)
          have HF4 := hidden (hF4.ge HF2.out (by simp; have := HP.out.keeps.size; omega))
          clear hS4 hK4 hF4 hys
          rw [codeIf_true]
          go_wp2_with (first | (go_at_call 50; refine (builder_Text_long _ F4 _ _ HS4.out).mono ?_; rintro e _ ⟨rfl, rfl⟩))
          refine (builder_Add _ F4 _ _ true none 0 [] HS4.out (by omega) (Strs.nil _ _) (by simp) (by simp)).mono ?_
          rintro e w5 ⟨F5, rfl, hS5, hK5, hF5⟩
          have HK5 := hidden (HK4.out.step HF4.out hK5)
          rw [show codeIf 2 (addl [] all true).2 = 2 from rfl]
          clear hS5 hK5 hF5
          go_wp2
          exact hR.out _ _ ⟨rfl, HK5.out.below (Nat.le_refl _) (fun _ h => h)⟩
end Go.Proofs.Ytcikeaabijfmpaa
