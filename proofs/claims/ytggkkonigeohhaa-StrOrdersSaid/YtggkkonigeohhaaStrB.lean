/- Layer 2: contracts of behind, Unescape. -/
import Derived.Test.YtggkkonigeohhaaStrA
namespace Go.Proofs.Ytggkkonigeohhaa
open Go.RowKit
set_option maxRecDepth 100000

theorem toList_inj {a b : ByteArray} : a.toList = b.toList ↔ a = b := by
  rw [Lib.toList_data, Lib.toList_data]
  refine ⟨fun h => ?_, fun h => by rw [h]⟩
  exact ByteArray.ext (Array.ext' h)
theorem str_some {s : ByteArray} (h : 0 < s.size) : s.toList.isEmpty = false := by
  rw [Lib.toList_data, List.isEmpty_eq_false_iff_exists_mem]
  exact ⟨s[0], by simp [ByteArray.getElem_eq_getElem_data]⟩
theorem str_none {s : ByteArray} (h : ¬ 0 < s.size) : s = ⟨#[]⟩ := by
  apply ByteArray.ext
  apply Array.eq_empty_of_size_eq_zero
  have : s.data.size = s.size := rfl
  omega
theorem at_list (s : ByteArray) {k : Nat} (h : k < s.size) : s.data.toList[k]'(by simpa using h) = s[k] := by rw [Array.getElem_toList]; rfl
theorem list_cons {s : ByteArray} {k : Nat} (h : k < s.size) : s.data.toList.drop k = s[k] :: s.data.toList.drop (k + 1) := by
  rw [List.drop_eq_getElem_cons (by simpa using h), at_list s h]
theorem list_nil {s : ByteArray} {k : Nat} (h : ¬ k < s.size) : s.data.toList.drop k = [] := List.drop_eq_nil_of_le (by have : s.data.size = s.size := rfl; simp; omega)
theorem list_len (s : ByteArray) : s.data.toList.length = s.size := by simp
theorem ret_tup {a b c d : Value} (h1 : a = c) (h2 : b = d) : Ending.returned (.tuple #[a, b]) = .returned (.tuple #[c, d]) := by rw [h1, h2]
theorem beh_is (c : UInt8) (r : List UInt8) : (c.toNat = 34 ∨ c.toNat = 39 ∨ c.toNat = 92 → beh (c :: r) = (c.toNat, 1)) ∧ (c.toNat = 110 → beh (c :: r) = (10, 1)) ∧ (c.toNat = 114 → beh (c :: r) = (13, 1)) ∧ (c.toNat = 116 → beh (c :: r) = (9, 1)) ∧
    (c.toNat = 48 → beh (c :: r) = (0, 1)) ∧ (c.toNat = 120 → beh (c :: r) = hx r) ∧
    (¬ (c.toNat = 34 ∨ c.toNat = 39 ∨ c.toNat = 92) → ¬ (c.toNat = 110 ∨ c.toNat = 114 ∨ c.toNat = 116 ∨ c.toNat = 48 ∨ c.toNat = 120) → beh (c :: r) = (0, 0)) := by
  refine ⟨fun h => ?_, fun h => ?_, fun h => ?_, fun h => ?_, fun h => ?_, fun h => ?_, fun h k => ?_⟩
  · rw [beh, if_pos h]
  · rw [beh, if_neg (by omega), if_pos h]
  · rw [beh, if_neg (by omega), if_neg (by omega), if_pos h]
  · rw [beh, if_neg (by omega), if_neg (by omega), if_neg (by omega), if_pos h]
  · rw [beh, if_neg (by omega), if_neg (by omega), if_neg (by omega), if_neg (by omega), if_pos h]
  · rw [beh, if_neg (by omega), if_neg (by omega), if_neg (by omega), if_neg (by omega), if_neg (by omega), if_pos h]
  · rw [beh, if_neg (by omega), if_neg (by omega), if_neg (by omega), if_neg (by omega), if_neg (by omega), if_neg (by omega)]
theorem str_digit_some (c : UInt8) (w : World) (h : dig c < 16) : Calls Try.prog 43 #[.int .u8 c.toNat] w fun e w' => e = .returned (.int .i64 (dig c)) ∧ w = w' := by
  have := str_digit c w
  rwa [digI, if_pos h] at this
theorem str_digit_none (c : UInt8) (w : World) (h : ¬ dig c < 16) : Calls Try.prog 43 #[.int .u8 c.toNat] w fun e w' => e = .returned (.int .i64 (-1)) ∧ w = w' := by
  have := str_digit c w
  rwa [digI, if_neg h] at this
theorem or_dig : ∀ a : Nat, a < 16 → ∀ b : Nat, b < 16 → bits BinOp.or .i64 ((a : Int) * 16) (b : Nat) = a * 16 + b := by decide
theorem or_dig0 : ∀ b : Nat, b < 16 → bits BinOp.or .i64 0 (b : Nat) = b := by decide
theorem hx_one (s : ByteArray) (h : ¬ 1 < s.size) : hx (s.data.toList.drop 1) = (0, 0) := by rw [list_nil h]; rfl
theorem hx_bad (s : ByteArray) (h : 1 < s.size) (hd : ¬ dig s[1] < 16) : hx (s.data.toList.drop 1) = (0, 0) := by
  rw [list_cons h]
  cases s.data.toList.drop (1 + 1) <;> simp [hx, hd]
theorem hx_two (s : ByteArray) (h : 1 < s.size) (hd : dig s[1] < 16) (h2 : ¬ 2 < s.size) : hx (s.data.toList.drop 1) = (dig s[1], 2) := by
  rw [list_cons h, list_nil h2]; simp [hx, hd]
theorem hx_two' (s : ByteArray) (h : 2 < s.size) (hd : dig s[1] < 16) (hd2 : ¬ dig s[2] < 16) : hx (s.data.toList.drop 1) = (dig s[1], 2) := by
  rw [list_cons (show 1 < s.size by omega), list_cons (show 1 + 1 < s.size by omega)]; simp [hx, hd, hd2]
theorem hx_three (s : ByteArray) (h : 2 < s.size) (hd : dig s[1] < 16) (hd2 : dig s[2] < 16) : hx (s.data.toList.drop 1) = (dig s[1] * 16 + dig s[2], 3) := by
  rw [list_cons (show 1 < s.size by omega), list_cons (show 1 + 1 < s.size by omega)]; simp [hx, hd, hd2]
/-- The digits behind an x, read so far: at place a the number n. -/
def hxAt (s : ByteArray) (n a : Nat) : Prop := (a = 1 ∧ n = 0) ∨ (a = 2 ∧ ∃ h : 1 < s.size, dig s[1] < 16 ∧ n = dig s[1]) ∨ (a = 3 ∧ ∃ h : 2 < s.size, dig s[1] < 16 ∧ dig s[2] < 16 ∧ n = dig s[1] * 16 + dig s[2])
theorem str_behind (s : ByteArray) (w : World) (hs : s.size ≤ 140737488355328) : Calls Try.prog 33 #[.string s] w fun e w' => e = .returned (.tuple #[.int .u8 (beh s.data.toList).1, .int .i64 (beh s.data.toList).2]) ∧ w = w' := by
  by_cases h0 : 0 < s.size
  · have hl := list_cons h0
    simp only [List.drop_zero, Nat.zero_add] at hl
    have B := hidden (beh_is s[0] (s.data.toList.drop 1))
    rw [hl]
    have HL := hidden hl
    clear hl
    have hne := str_some h0
    by_cases hx : s[0].toNat = 120
    · obtain ⟨-, -, -, -, -, b6, -⟩ := B.out
      rw [b6 hx]
      have hxx : ((s[0].toNat : Int) == 120) = true := by simp; omega
      have hx1 : ((s[0].toNat : Int) == 34) = false := by simp; omega
      have hx2 : ((s[0].toNat : Int) == 39) = false := by simp; omega
      have hx3 : ((s[0].toNat : Int) == 92) = false := by simp; omega
      have hx4 : ((s[0].toNat : Int) == 110) = false := by simp; omega
      have hx5 : ((s[0].toNat : Int) == 114) = false := by simp; omega
      have hx6 : ((s[0].toNat : Int) == 116) = false := by simp; omega
      have hx7 : ((s[0].toNat : Int) == 48) = false := by simp; omega
      clear b6 B hx
      refine post_gen fun R hR => ?_
      go_enter Try.func33, Try.ntmps33
      go_wp2_with fail
      go_loop [4, 5] (fun n a => ∃ nn aa : Nat, n = .int .i64 nn ∧ a = .int .i64 aa ∧ hxAt s nn aa) (fun _ a => 3 - (intOf a).toNat)
      case atStart => exact ⟨0, 1, rfl, rfl, .inl ⟨rfl, rfl⟩⟩
      case round =>
        obtain ⟨nn, aa, rfl, rfl, hA⟩ := hrel
        rcases hA with ⟨rfl, rfl⟩ | ⟨rfl, h1, hd, rfl⟩ | ⟨rfl, h2, hd, hd2, rfl⟩
        · by_cases h1 : 1 < s.size
          · by_cases hd : dig s[1] < 16
            · have g1 := or_dig0 _ hd
              go_wp2_with (go_at_call 43; refine (str_digit_some s[1] _ hd).mono ?_; rintro e _ ⟨rfl, rfl⟩)
              go_round
              case rel => exact ⟨_, 2, rfl, rfl, .inr (.inl ⟨rfl, h1, hd, rfl⟩)⟩
              case measure => simp [intOf]
            · go_wp2_with (go_at_call 43; refine (str_digit_none s[1] _ hd).mono ?_; rintro e _ ⟨rfl, rfl⟩)
              exact hR.out _ _ ⟨by rw [hx_bad s h1 hd]; rfl, rfl⟩
          · go_wp2_with fail
            exact hR.out _ _ ⟨by rw [hx_one s h1]; rfl, rfl⟩
        · by_cases h2 : 2 < s.size
          · by_cases hd2 : dig s[2] < 16
            · have g1 := or_dig _ hd _ hd2
              go_wp2_with (go_at_call 43; refine (str_digit_some s[2] _ hd2).mono ?_; rintro e _ ⟨rfl, rfl⟩)
              go_round
              case rel => exact ⟨_, 3, by go_num, rfl, .inr (.inr ⟨rfl, h2, hd, hd2, rfl⟩)⟩
              case measure => simp [intOf]
            · have hu : ((dig s[1] : Nat) : Int) < 256 := by omega
              go_wp2_with (go_at_call 43; refine (str_digit_none s[2] _ hd2).mono ?_; rintro e _ ⟨rfl, rfl⟩)
              exact hR.out _ _ ⟨by rw [hx_two' s h2 hd hd2]; rfl, rfl⟩
          · have hu : ((dig s[1] : Nat) : Int) < 256 := by omega
            go_wp2_with fail
            exact hR.out _ _ ⟨by rw [hx_two s h1 hd h2]; rfl, rfl⟩
        · have hu : ((dig s[1] * 16 + dig s[2] : Nat) : Int) < 256 := by omega
          go_wp2_with fail
          all_goals exact hR.out _ _ ⟨by rw [hx_three s h2 hd hd2]; simp, rfl⟩
    · have hxx : ((s[0].toNat : Int) == 120) = false := by simp; omega
      refine post_gen fun R hR => ?_
      go_enter Try.func33, Try.ntmps33
      go_wp2_with fail
      all_goals
        refine hR.out _ _ ⟨ret_tup (show Value.int _ _ = _ from ?_) (show Value.int _ _ = _ from ?_), rfl⟩
        all_goals
          clear hR
          obtain ⟨b1, b2, b3, b4, b5, b6, b7⟩ := B.out
          simp only [beq_iff_eq, beq_eq_false_iff_ne, ne_eq] at *
          first | (rw [b1 (by omega)] <;> rfl) | (rw [b2 (by omega)] <;> rfl) | (rw [b3 (by omega)] <;> rfl) | (rw [b4 (by omega)] <;> rfl)| (rw [b5 (by omega)] <;> rfl) | (rw [b7 (by omega) (by omega)] <;> rfl)
  · obtain rfl := str_none h0
    refine post_gen fun R hR => ?_
    go_enter Try.func33, Try.ntmps33
    go_wp2_with fail
    exact hR.out _ _ ⟨rfl, rfl⟩

theorem mkS_snoc (l : List UInt8) (c : UInt8) : mkS l ++ ⟨#[c]⟩ = mkS (l ++ [c]) := by
  apply ByteArray.ext; simp [mkS]
theorem byteCells_snoc (l : List UInt8) (c : UInt8) : byteCells l ++ [.int .u8 c.toNat] = byteCells (l ++ [c]) := by simp [byteCells]
/-- Unescape's answer. -/
def unAns : List UInt8 ⊕ Nat → Value
  | .inl t => .tuple #[.string (mkS t), .agg #[.int .i64 0, .int .i64 0]]
  | .inr k => .tuple #[.string ⟨#[]⟩, .agg #[.int .i64 20, .int .i64 k]]
/-- The fault that is answered, in its block. -/
def FaultAt (w : World) (b : Nat) (x y : Int) : Prop := w.heap[b]? = some (.cells #[.int .i64 x, .int .i64 y] 26 (0, 0))
theorem FaultAt.new (w : World) (x y : Int) : FaultAt (w.alloc (.cells #[.int .i64 x, .int .i64 y] 26)) w.heap.size x y := blk_new _ _
theorem FaultAt.cells {w : World} {b : Nat} {x y : Int} (h : FaultAt w b x y) : w.cell? ⟨b, 0, none⟩ = some (.int .i64 x) ∧ w.cell? ⟨b, 1, none⟩ = some (.int .i64 y) ∧ w.frozen? ⟨b, 0, none⟩ = false ∧ w.frozen? ⟨b, 1, none⟩ = false :=
  ⟨blk_cell h 0, blk_cell h 1, blk_frozen h 0, blk_frozen h 1⟩
theorem FaultAt.set {w : World} {b : Nat} {x y : Int} (h : FaultAt w b x y) (u v : Int) : FaultAt ((w.setCell ⟨b, 0, none⟩ (.int .i64 u)).setCell ⟨b, 1, none⟩ (.int .i64 v)) b u v := blk_set (blk_set h 0 _) 1 _
theorem Keeps.fault {S : Nat → Prop} {a w : World} (h : Keeps S a w) {b : Nat} (hb : b < a.heap.size → S b) (u v : Value) : Keeps S a ((w.setCell ⟨b, 0, none⟩ u).setCell ⟨b, 1, none⟩ v) := (h.setCell (p := ⟨b, 0, none⟩) hb u).setCell (p := ⟨b, 1, none⟩) hb v
theorem drop_list (s : ByteArray) (k : Nat) : (s.extract k s.size).data.toList = s.data.toList.drop k := by
  have e : s.data.toList.length = s.size := by simp
  simp
  rw [List.take_of_length_le (by simp)]
set_option maxHeartbeats 1000000 in
theorem str_Unescape (s : ByteArray) (w : World) (hs : s.size ≤ 140737488351232) : Calls Try.prog 13 #[.string s] w fun e w' => e = .returned (unAns (unesc s.data.toList)) ∧ Keeps (fun _ => False) w w' := by
  have Z := hidden (unAt_zero s.data.toList)
  have HL := hidden (list_len s)
  generalize unesc s.data.toList = r at *
  refine post_gen fun R hR => ?_
  go_enter Try.func13, Try.ntmps13
  have HF0 := FaultAt.new w 0 0
  have HK0 := hidden ((Keeps.refl (fun _ => False) w).alloc (.cells #[.int .i64 0, .int .i64 0] 26))
  have hw0 : w.heap.size + 1 = (w.alloc (.cells #[.int .i64 0, .int .i64 0] 26)).heap.size := by simp
  have hsz0 : w.heap.size < (w.alloc (.cells #[.int .i64 0, .int .i64 0] 26)).heap.size := by simp
  have HZ := hidden hw0
  have HFF := hidden HF0
  clear hw0 HF0
  go_wp2_with (at_make; refine mk0_list _ rfl _ _ _ rfl _ _ 1 1 Try.underlying46 info_uint8 _ _ _ s.size rfl rfl rfl (by omega) (by omega) ?_; intro w1 hR1 hK1; have HR1 := hidden hR1; have HK1 := hidden hK1; clear hR1 hK1)
  generalize w.alloc (.cells #[.int .i64 0, .int .i64 0] 26) = w0 at *
  go_loopw [4, 5] (fun o i wr => ∃ (k : Nat) (l : List UInt8) (A : Option Addr) (c : Nat) (F' : Nat → Prop), k ≤ s.size ∧ l.length ≤ k ∧ i = .int .i64 k ∧ o = .slice A l.length c ∧ Row wr F' 5 1 (.slice A l.length c) l.length (byteCells l) ∧ Keeps (fun _ => False) w0 wr ∧ Fresh (fun _ => False) F' w0 ∧ ahd l (unAt s.data.toList k) = r) (fun _ i _ => s.size - (intOf i).toNat)
  case atStart => exact ⟨0, [], some ⟨w0.heap.size, 0, none⟩, s.size, fun j => j = w0.heap.size, Nat.zero_le _, Nat.zero_le _, rfl, by rw [HZ.out]; rfl, HR1.out, HK1.out, fun j hj => .inr (Nat.le_of_eq (Eq.symm hj)), Z.out⟩
  case round =>
    obtain ⟨k, l, A, c, F', hk, hl, rfl, rfl, hRow, hK, hF, heq⟩ := hrel
    have HR := hidden hRow
    have HK := hidden hK
    have HEQ := hidden heq
    have HFr := hK.heap HFF.out (fun h => h)
    obtain ⟨q0, q1, z0, z1⟩ := FaultAt.cells HFr
    have hwr := hK.size
    clear hRow heq hK HFr HR1 HK1
    by_cases hlt : k < s.size
    · have HG := hidden (at_list s hlt)
      have HKL := hidden (show k < s.data.toList.length by rw [HL.out]; exact hlt)
      by_cases hc : s[k].toNat = 92
      · have i1 : ((s[k].toNat : Int) == 92) = true := by simp; omega
        have i2 : ((s[k].toNat : Int) != 92) = false := by simp; omega
        have hsz2 : (s.extract (k + 1) s.size).size ≤ 140737488355328 := by simp; omega
        have hB := str_behind (s.extract (k + 1) s.size) wr hsz2
        have hbad := unAt_bad l HKL.out (by rw [HG.out]; exact hc)
        have hesc := unAt_esc l HKL.out (by rw [HG.out]; exact hc)
        have hlt2 := beh_lt (s.data.toList.drop (k + 1))
        have hle2 := beh_le (s.data.toList.drop (k + 1))
        rw [List.length_drop, HL.out] at hle2
        rw [drop_list] at hB
        clear hc
        generalize beh (s.data.toList.drop (k + 1)) = p at *
        obtain ⟨bv, bn⟩ := p
        simp only at hB hbad hesc hlt2 hle2
        have HB := hidden hB
        have HBAD := hidden hbad
        have HESC := hidden hesc
        clear hB hbad hesc
        by_cases hb : bn = 0
        · subst hb
          go_wp2_with (go_at_call 33; refine HB.out.mono ?_; rintro e wx ⟨rfl, rfl⟩)
          obtain ⟨d0, d1, -, -⟩ := ((show FaultAt wr w.heap.size 0 0 from HK.out.heap HFF.out (fun h => h)).set 20 k).cells
          refine bodyPost_ret (v := .tuple #[.string ⟨#[]⟩, .agg #[.int .i64 20, .int .i64 k]]) (by simp [results, Try.results13, go_sem, d0, d1]) rfl (hR.out _ _ ⟨?_, (HK0.out.trans HK.out (fun _ _ h => h)).fault (fun h => absurd h (Nat.lt_irrefl _)) _ _⟩)
          rw [← HEQ.out, HBAD.out trivial]; rfl
        · have i3 : ((bn : Int) == 0) = false := by simp; omega
          have HBN := hidden hb
          clear hb
          go_wp2_with (first | (go_at_call 33; refine HB.out.mono ?_; rintro e wx ⟨rfl, rfl⟩) | (at_builtin; refine app_list rfl F' _ _ _ _ _ _ 1 1 rfl Try.underlying46 info_uint8 rfl (by decide) _ _ _ rfl (HR.out.alloc _) _ rfl _ _ (src_one wr _ _ Try.underlying46 rfl) (by simp; omega) (by simp; omega) ?_; intro A2 c2 w2 hR2 hK2; have HR2 := hidden hR2; have HK2 := hidden hK2; clear hR2 hK2))
          go_roundw
          case rel =>
            obtain ⟨g1, g2, g3⟩ := app_lit_end HR.out HK.out hF HR2.out HK2.out
            have eb : (.int .u8 (bv : Int) : Value) = .int .u8 (UInt8.ofNat bv).toNat := by simp [Nat.mod_eq_of_lt hlt2]
            rw [eb, byteCells_snoc] at g1
            exact ⟨k + bn + 1, l ++ [UInt8.ofNat bv], A2, c2, _, by omega, by simp; omega, by go_num, by simp, by simpa using g1, g2, g3, by rw [show k + bn + 1 = k + 1 + bn by omega, ← HESC.out HBN.out]; exact HEQ.out⟩
          case measure => simp [intOf]; omega
      · have i1 : ((s[k].toNat : Int) == 92) = false := by simp; omega
        have i2 : ((s[k].toNat : Int) != 92) = true := by simp; omega
        have HC := hidden hc
        clear hc
        go_wp2_with (at_builtin; refine app_list rfl F' _ _ _ _ _ _ 1 1 rfl Try.underlying46 info_uint8 rfl (by decide) _ _ _ rfl (HR.out.alloc _) _ rfl _ _ (src_one wr _ _ Try.underlying46 rfl) (by simp; omega) (by simp; omega) ?_; intro A2 c2 w2 hR2 hK2; have HR2 := hidden hR2; have HK2 := hidden hK2; clear hR2 hK2)
        go_roundw
        case rel =>
          obtain ⟨g1, g2, g3⟩ := app_lit_end HR.out HK.out hF HR2.out HK2.out
          rw [byteCells_snoc] at g1
          exact ⟨k + 1, l ++ [s[k]'hlt], A2, c2, _, hlt, by simp; omega, by go_num, by simp, by simpa using g1, g2, g3, by rw [← HG.out, ← unAt_plain l HKL.out (by rw [HG.out]; exact HC.out)]; exact HEQ.out⟩
        case measure => simp [intOf]; omega
    · obtain rfl : k = s.size := by omega
      have hrun := own_text (P := Try.prog) Try.underlying46 Try.underlying5 Try.underlying9 HR.out.1
      go_wp2_with fail
      obtain ⟨d0, d1, -, -⟩ := ((show FaultAt wr w.heap.size 0 0 from HK.out.heap HFF.out (fun h => h)).set 0 0).cells
      refine bodyPost_ret (v := .tuple #[.string (mkS l), .agg #[.int .i64 0, .int .i64 0]]) (by simp [results, Try.results13, go_sem, d0, d1, mkS]) rfl (hR.out _ _ ⟨?_, (HK0.out.trans HK.out (fun _ _ h => h)).fault (fun h => absurd h (Nat.lt_irrefl _)) _ _⟩)
      rw [← HEQ.out, unAt_end _ _ _ (by rw [HL.out]; exact Nat.le_refl _)]; rfl
end Go.Proofs.Ytggkkonigeohhaa
