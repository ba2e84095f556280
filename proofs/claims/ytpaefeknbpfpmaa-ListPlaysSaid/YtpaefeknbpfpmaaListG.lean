/- Layer 4: lists resized: contracts. -/
import Derived.Test.YtpaefeknbpfpmaaHead4
namespace Go.Proofs.Ytpaefeknbpfpmaa
open Go.RowKit

def lenAt (w : World) (b : Nat) : Nat := match w.cell? ⟨b, 0, none⟩ with
  | some (.slice _ n _) => n
  | _ => 0
theorem IsListAt.lenAt {w : World} {F : Nat → Prop} {b : Nat} {v : Value} {xs : List V} (h : IsListAt w F b v xs) : lenAt w b = xs.length := by
  obtain ⟨A, c, rfl⟩ := h.row.form
  have l0 : w.cell? ⟨b, 0, none⟩ = some (.slice A xs.length c) := blk_cell h.blk 0
  simp [Go.Proofs.Ytpaefeknbpfpmaa.lenAt, l0]
/-- So many values: the first ones, and another one behind them. -/
def resized (xs : List V) (n : Nat) (y : V) : List V := xs.take n ++ List.replicate (n - xs.length) y
theorem resized_length (xs : List V) (n : Nat) (y : V) : (resized xs n y).length = n := by simp [resized]; omega

theorem resized_take {xs : List V} {n j : Nat} {y : V} (hj : j = 0 ∨ xs.length + j ≤ n) (hn : n ≤ xs.length + j) : (xs ++ List.replicate j y).take n = resized xs n y := by
  rcases hj with rfl | hj
  · simp [resized, show n - xs.length = 0 by omega]
  · have : n = xs.length + j := by omega
    subst this
    simp [resized, List.take_append]
def RzAt (w0 : World) (F : Nat → Prop) (b : Nat) (xs : List V) (n : Nat) (y : V) (wr : World) : Prop := ∃ (j : Nat) (F' : Nat → Prop) (v' : Value), (j = 0 ∨ xs.length + j ≤ n) ∧ IsListAt wr F' b v' (xs ++ List.replicate j y) ∧ Keeps F w0 wr ∧ Fresh F F' w0
set_option maxHeartbeats 1000000 in
theorem list_Resize_ok (w : World) (F : Nat → Prop) (b : Nat) (xs : List V) (n : Nat) (y : V) (h : IsList w F b xs) (hn : n ≤ 1048576) :
    Calls Try.prog 45 #[.pointer (some ⟨b, 0, none⟩), .int .i64 n, y.val] w fun e w' => ∃ F', e = .returned (.int .i64 0) ∧ IsList w' F' b (resized xs n y) ∧ Keeps F w w' ∧ Fresh F F' w := by
  obtain ⟨v, hL⟩ := h
  have hFb : ¬ F w.heap.size := fun h => by have := hL.inw _ h; omega
  have HL := hidden (show IsListAt (w.alloc (.cells #[.int .i64 y.k, .int .i64 y.n, .string y.t] 30)) F b v xs from ⟨blk_alloc hL.blk _, hL.here, hL.row.alloc _, hL.inw.keeps ((Keeps.refl (fun _ => False) w).alloc _)⟩)
  have HY := hidden (IsVar.new w y)
  have i1 : ¬ ((n : Int) < 0) := by omega
  have i2 : ¬ ((1048576 : Int) < n) := by omega
  clear hL
  unfold V.val
  refine post_gen fun R hR => ?_
  go_enter Try.func45, Try.ntmps45
  go_wp2
  have hK0 : Keeps (fun _ => False) w (w.alloc (.cells #[.int .i64 y.k, .int .i64 y.n, .string y.t] 30)) := (Keeps.refl _ w).alloc _
  have hs0 : (w.alloc (.cells #[.int .i64 y.k, .int .i64 y.n, .string y.t] 30)).heap.size = w.heap.size + 1 := size_alloc _ _
  generalize (w.alloc (.cells #[.int .i64 y.k, .int .i64 y.n, .string y.t] 30)) = w0 at *
  go_loopw [13] (fun _ wr => RzAt w0 F b xs n y wr) (fun _ wr => n - lenAt wr b)
  case atStart => exact ⟨0, F, v, .inl rfl, by simpa using HL.out, Keeps.refl _ _, Fresh.refl _ _⟩
  case round =>
    obtain ⟨j, F', v', hj, hL, hK, hF⟩ := hrel
    have hlen : (xs ++ List.replicate j y).length = xs.length + j := by simp
    have hLA := hL.lenAt
    rw [hlen] at hLA
    have HLA := hidden hLA
    have hFb' : ¬ F' w.heap.size := fun h => by
      rcases hF _ h with h | h
      · exact hFb h
      · omega
    have hv := HY.out.keeps hK hFb
    obtain ⟨y0, y1, y2, _⟩ := hv.cells
    obtain ⟨A1, c1, rfl⟩ := hL.row.form
    rw [hlen] at hL
    have HL' := hidden hL
    have HRow := hidden (show Row (wr.alloc (.cells #[.int .i64 y.k, .int .i64 y.n, .string y.t] 30)).drew F' 30 3 (.slice A1 (xs.length + j) c1) (xs.length + j) (flat (xs ++ List.replicate j y)) by
      have := hL.row
      rw [hlen] at this
      exact (this.alloc _).drew)
    have HSrc := hidden (show Src Try.prog 3 60 (.slice (some ⟨wr.heap.size, 0, none⟩) 1 1) 1 (flat [y]) (wr.alloc (.cells #[.int .i64 y.k, .int .i64 y.n, .string y.t] 30)).drew from
      (show Vals (wr.alloc (.cells #[.int .i64 y.k, .int .i64 y.n, .string y.t] 30)).drew (some ⟨wr.heap.size, 0, none⟩) [y] from Vals.lit wr [y] 30 rfl).src (c := 1) Try.underlying60)
    have l0 : wr.cell? ⟨b, 0, none⟩ = some (.slice A1 (xs.length + j) c1) := blk_cell hL.blk 0
    have l0f : wr.frozen? ⟨b, 0, none⟩ = false := blk_frozen hL.blk 0
    have hb := blk_lt hL.blk
    have hcap : xs.length + j ≤ c1 := HRow.out.cap
    have hbox : w.heap.size < wr.heap.size := by have := hK.size; omega
    clear hL hv hLA
    by_cases hlt : xs.length + j < n
    · go_wp2
      go_region_law (refine app_step rfl F' _ _ _ _ _ _ 3 32 rfl Try.underlying60 info_val rfl (by decide) (.slice A1 (xs.length + j) c1) _ _ rfl HRow.out _ rfl 1 _ HSrc.out (by omega) (by omega) ?_; intro A2 c2 w1 hR2 hK2; have d := hidden (HL'.out.cellKept (((Keeps.refl _ wr).alloc _).drew) hK2); have e0 := blk_cell d.out 0; have f0 := blk_frozen d.out 0; simp only [List.getElem?_toArray, List.getElem?_cons_zero] at e0; have HR2 := hidden hR2; have HK2 := hidden hK2; clear hR2 hK2)
      all_goals
        go_roundw
        case rel =>
          obtain ⟨F2, g1, g2, g3⟩ := HL'.out.put' (((Keeps.refl _ wr).alloc _).drew) (ys := xs ++ List.replicate (j + 1) y) (by simp; omega) (by rw [List.replicate_succ', ← List.append_assoc, flat_append _ [y]]) HR2.out HK2.out ((SameBut.refl b w1).set 0 _) (blk_set d.out 0 _)
          have hrz : RzAt w0 F b xs n y _ := ⟨j + 1, F2, _, .inr (by omega), g1, hK.fresh hF g2, hF.trans g3 hK⟩
          exact ⟨_, _, _, _, _, _, _, _, _, _, _, _, _, _, _, _, _, hrz, rfl⟩
        case measure =>
          rw [HLA.out]
          obtain ⟨F2, g1, g2, g3⟩ := HL'.out.put' (((Keeps.refl _ wr).alloc _).drew) (ys := xs ++ List.replicate (j + 1) y) (by simp; omega) (by rw [List.replicate_succ', ← List.append_assoc, flat_append _ [y]]) HR2.out HK2.out ((SameBut.refl b w1).set 0 _) (blk_set d.out 0 _)
          rw [g1.lenAt]
          simp
          omega
    · have HE := hidden (resized_take (y := y) hj (by omega : n ≤ xs.length + j))
      have hrow := HL'.out.row
      rw [hlen] at hrow
      have HT := hidden (HL'.out.turn (ys := resized xs n y) (resized_length xs n y).symm (by rw [← HE.out, ← flat_take]) (hrow.take (m := n) (by omega)))
      clear hrow
      go_wp2
      exact hR.out _ _ ⟨F', rfl, IsList.at HT.out.1, ((hK0.mono (fun _ _ h => h.elim)).trans hK (fun _ _ h => h)).trans HT.out.2 (fun i hi h => by rcases hF i h with x | x; exact x; omega), fun i h => by rcases hF i h with x | x; exact .inl x; exact .inr (by omega)⟩
theorem list_Resize_bad (w : World) (b : Nat) (n : Int) (y : V) (e : Int) (hn : (n < 0 ∧ e = 1) ∨ (1048576 < n ∧ e = 2)) :
    Calls Try.prog 45 #[.pointer (some ⟨b, 0, none⟩), .int .i64 n, y.val] w fun r w' => r = .returned (.int .i64 e) ∧ Keeps (fun _ => False) w w' := by
  unfold V.val
  refine post_gen fun R hR => ?_
  rcases hn with ⟨hn, rfl⟩ | ⟨hn, rfl⟩
  · go_enter Try.func45, Try.ntmps45
    go_wp2
    exact hR.out _ _ ⟨rfl, (Keeps.refl _ w).alloc _⟩
  · have hn0 : ¬ n < 0 := by omega
    go_enter Try.func45, Try.ntmps45
    go_wp2
    exact hR.out _ _ ⟨rfl, (Keeps.refl _ w).alloc _⟩
end Go.Proofs.Ytpaefeknbpfpmaa
