/- The walk of the statement ListGreat. -/
import Derived.Test.YtcikeaabijfmpaaListG
import Derived.Test.YtcikeaabijfmpaaListE
namespace Go.Proofs.Ytcikeaabijfmpaa
open Go.RowKit

set_option maxRecDepth 100000 in
theorem made_null : ∀ n, n ≤ 4 → (madeCells (Value.agg #[.int .i64 0, .int .i64 0, .string ⟨#[]⟩]).cells (n * 3)).toList = flat (List.replicate n V.null)
  | 0, _ => by kernel_rfl
  | 1, _ => by kernel_rfl
  | 2, _ => by kernel_rfl
  | 3, _ => by kernel_rfl
  | 4, _ => by kernel_rfl
  | n + 5, h => by omega
set_option maxRecDepth 100000 in
set_option maxHeartbeats 4000000 in
theorem listGreat_walk (w : World) (less : Int) (hf : -9223372036854775808 ≤ less ∧ less ≤ 9223372036854775807) :
    Calls Try.prog 8 #[.int .i64 less] w fun e w' => e = .returned (.bool true) ∧ Below w.heap.size w w' := by
  obtain ⟨hf0, hf1⟩ := hf
  refine post_gen fun R hR => ?_
  go_enter Try.func8, Try.ntmps8
  go_wp2_with fail
  refine (keeps4_true _).mono ?_
  rintro e w1 ⟨rfl, hB1⟩
  have HK := hidden (Keeps.of_below hB1)
  have hB := hB1.size
  clear hB1
  by_cases h0 : less < 0
  · go_wp2
    exact hR.out _ _ ⟨rfl, HK.out.below (Nat.le_refl _) (fun _ h => h)⟩
  by_cases h3 : 3 < less
  · go_wp2
    exact hR.out _ _ ⟨rfl, HK.out.below (Nat.le_refl _) (fun _ h => h)⟩
  obtain ⟨m, rfl⟩ : ∃ m : Nat, less = m := ⟨less.toNat, by omega⟩
  have hm : m ≤ 3 := by omega
  clear h0 h3 hf0 hf1
  go_wp2_with fail
  refine (list_New w1 none 0 [] (Vals.nil _ _) (by simp) (fun _ => rfl)).mono ?_
  rintro e w2 ⟨lb, LF, rfl, hL, hK, hF⟩
  have HL := hidden hL
  have HLF := hidden (hF.ge (B := w.heap.size) (fun _ h => h.elim) hB)
  obtain ⟨HK, hB⟩ := Keeps.stepNone HK hB hK
  clear hK hL hF
  go_wp2_with fail
  refine (value_Int 7 _).mono ?_
  rintro e w3 ⟨rfl, hK⟩
  have HL := hidden (HL.out.none hK)
  obtain ⟨HK, hB⟩ := Keeps.stepNone HK hB hK
  clear hK
  have hres := hidden (list_Resize_ok w3 LF lb [] (1048576 - m) ⟨2, 7, ⟨#[]⟩⟩ HL.out (by omega))
  rw [show ((1048576 - m : Nat) : Int) = 1048576 - (m : Int) by omega] at hres
  have hlen := hidden (resized_length [] (1048576 - m) ⟨2, 7, ⟨#[]⟩⟩)
  generalize resized [] (1048576 - m) ⟨2, 7, ⟨#[]⟩⟩ = xs at *
  go_wp2_with fail
  refine hres.out.mono ?_
  rintro e w4 ⟨LF1, rfl, hL, hK, hF⟩
  have HL := hidden hL
  obtain ⟨HK, HLF, hB⟩ := Keeps.step' HK HLF hB hK hF
  clear hK hL hF hres
  go_wp2_with fail
  refine (list_Len w4 LF1 lb _ HL.out).mono ?_
  rintro e _ ⟨rfl, rfl⟩
  rw [show (xs.length : Int) = 1048576 - (m : Int) by rw [hlen.out]; omega]
  have HB4 := hidden (HL.out.inw)
  obtain ⟨i0, hi0, hz0, hs0, hb0⟩ := info_parts info_val
  go_wp2_with (at_make; refine wpList_make_full _ rfl _ _ _ rfl 0 50 i0 _ 3 Try.underlying41 hi0 hz0 hs0 .i64 .i64 ((m : Int) + 1) ((m : Int) + 1) (m + 1) rfl rfl (by omega) (by omega) (by rw [hb0]; omega) (by unfold maxLen; omega) (Nat.zero_le _) ?_; intro w5 hown hgrow; have HO := hidden hown; have HG := hidden hgrow; clear hown hgrow)
  have hk5 : Keeps (fun _ => False) w4 w5 := (Keeps.refl _ w4).grown HG.out (fun k h => by cases h)
  have hown := HO.out
  rw [made_null (m + 1) (by omega)] at hown
  have HVs := hidden (Vals.own hown)
  have HL := hidden (HL.out.none hk5)
  obtain ⟨HK, hB⟩ := Keeps.stepNone HK hB hk5
  have hsz5 : w4.heap.size < w5.heap.size := (hown.lt _ rfl).2
  have HAr := hidden (show ¬ LF1 w4.heap.size from fun h => Nat.lt_irrefl _ (HB4.out _ h))
  clear hown hk5 HO HG
  have hrl : (List.replicate (m + 1) V.null).length = m + 1 := by simp
  have hpush := hidden (list_Push_long w5 LF1 lb xs (List.replicate (m + 1) V.null) (some ⟨w4.heap.size, 0, none⟩) (m + 1) HL.out HVs.out (by rw [hrl, hlen.out]; omega) (by rw [hlen.out]; omega) (by rw [hrl]; omega))
  rw [hrl] at hpush
  go_wp2_with fail
  refine hpush.out.mono ?_
  rintro e w6 ⟨LF2, rfl, hL, hK, hF⟩
  have HAr2 := hidden (show ¬ LF2 w4.heap.size from fun h => by rcases hF _ h with h | h; exact HAr.out h; omega)
  have HVs := hidden (HVs.out.keeps hK (fun _ b o e => by simp at e; exact e.1 ▸ HAr.out))
  have HL := hidden hL
  obtain ⟨HK, HLF, hB⟩ := Keeps.step' HK HLF hB hK hF
  clear hK hL hF hpush
  go_wp2_with fail
  refine (list_Len w6 LF2 lb _ HL.out).mono ?_
  rintro e _ ⟨rfl, rfl⟩
  rw [show (xs.length : Int) = 1048576 - (m : Int) by rw [hlen.out]; omega]
  go_wp2_with fail
  refine (value_Null _).mono ?_
  rintro e w7 ⟨rfl, hK⟩
  have HL := hidden (HL.out.none hK)
  have HVs := hidden (HVs.out.keeps hK (fun _ _ _ _ h => h))
  obtain ⟨HK, hB⟩ := Keeps.stepNone HK hB hK
  clear hK
  go_wp2_with fail
  refine (list_Resize_bad w7 lb 1048577 V.null 2 (by omega)).mono ?_
  rintro e w8 ⟨rfl, hK⟩
  have HL := hidden (HL.out.none hK)
  have HVs := hidden (HVs.out.keeps hK (fun _ _ _ _ h => h))
  obtain ⟨HK, hB⟩ := Keeps.stepNone HK hB hK
  clear hK
  have p0 := hidden (fun h : m = 0 => list_Push_ok w8 LF2 lb xs [] (some ⟨w4.heap.size, 0, none⟩) 0 HL.out (Vals.nil _ _) (by rw [hlen.out]; simp))
  have p1 := hidden (list_Push_ok w8 LF2 lb xs (List.replicate m V.null) (some ⟨w4.heap.size, 3, none⟩) m HL.out (by
    have := HVs.out.sub 1 m
    simpa [add_at3] using this) (by rw [hlen.out]; simp; omega))
  rw [show (List.replicate m V.null).length = m by simp] at p1
  clear HVs
  go_wp2_with fail
  all_goals
    first | (rename_i h; subst h; refine (p0.out rfl).mono ?_; rintro e w9 ⟨LF3, rfl, hL, hK, hF⟩) | (refine p1.out.mono ?_; rintro e w9 ⟨LF3, rfl, hL, hK, hF⟩)
    obtain ⟨zs, hful, HL⟩ : ∃ zs : List V, zs.length = 1048576 ∧ Hid (IsList w9 LF3 lb zs) := ⟨_, by rw [List.length_append, hlen.out]; first | omega | (simp; omega) | simp, hidden hL⟩
    obtain ⟨HK, HLF, hB⟩ := Keeps.step' HK HLF hB hK hF
    clear hK hL hF p0 p1
    go_wp2_with fail
    refine (list_Len w9 LF3 lb _ HL.out).mono ?_
    rintro e _ ⟨rfl, rfl⟩
    rw [hful]
    go_wp2_with fail
    refine (value_Null _).mono ?_
    rintro e w10 ⟨rfl, hK⟩
    have HL := hidden (HL.out.none hK)
    obtain ⟨HK, hB⟩ := Keeps.stepNone HK hB hK
    clear hK
    go_wp2_with fail
    refine (list_Insert_long w10 LF3 lb _ 0 V.null HL.out ⟨by omega, by omega⟩ hful).mono ?_
    rintro e w11 ⟨rfl, hK⟩
    have HL := hidden (HL.out.none hK)
    obtain ⟨HK, hB⟩ := Keeps.stepNone HK hB hK
    clear hK
    go_wp2_with fail
    refine (list_Len w11 LF3 lb _ HL.out).mono ?_
    rintro e _ ⟨rfl, rfl⟩
    rw [hful]
    go_wp2
    exact hR.out _ _ ⟨rfl, HK.out.below (Nat.le_refl _) (fun _ h => h)⟩
end Go.Proofs.Ytcikeaabijfmpaa
