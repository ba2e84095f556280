/- Layer 4: the cells among values. -/
import Derived.Test.YtcikeaabijfmpaaSame4
namespace Go.Proofs.Ytcikeaabijfmpaa
open Go.RowKit

/-- The cells among values, in order. -/
def cellNums (xs : List V) : List Int := (xs.filter fun x => x.k == 4).map (·.n)
def intCells (l : List Int) : List Value := l.map (.int .i64)
theorem info_int : (Try.prog.info? 3).map (fun i => (i.zero, i.size, i.bytes)) = some (some (.int .i64 0), 1, 8) := by kernel_rfl
theorem int_lit (w : World) (n : Int) {m : Nat} (hm : m = w.heap.size) : Src Try.prog 1 60 (.slice (some ⟨m, 0, none⟩) 1 1) 1 [.int .i64 n] (w.alloc (.cells #[.int .i64 n] 3)) :=
  hm ▸ Src.ofSlice _ Try.underlying60 _ _ 1 _ rfl (fun j u hj => by
    rw [add_at3, blk_cell (blk_new w _)]
    cases j with
    | zero => simpa using hj
    | succ j => simp at hj) (fun u hu => by simp at hu; subst hu; rfl)
theorem cellNums_succ {xs : List V} {k : Nat} (hk : k < xs.length) : cellNums (xs.take (k + 1)) = cellNums (xs.take k) ++ (if xs[k].k = 4 then [xs[k].n] else []) := by
  rw [List.take_add_one, List.getElem?_eq_getElem hk]
  simp only [cellNums, List.filter_append, List.map_append, Option.toList_some]
  congr 1
  by_cases h : xs[k].k = 4 <;> simp [h]
theorem cellNums_length (xs : List V) : (cellNums xs).length ≤ xs.length := by simp only [cellNums, List.length_map]; exact List.length_filter_le _ _

set_option maxHeartbeats 1000000 in
theorem value_Cells (w : World) (A : Option Addr) (c : Nat) (xs : List V) (h : Vals w A xs) (hl : xs.length ≤ 1099511627776) :
    Calls Try.prog 64 #[.slice A xs.length c] w fun e w' => ∃ A' c' F', e = .returned (.slice A' (cellNums xs).length c') ∧ Row w' F' 3 1 (.slice A' (cellNums xs).length c') (cellNums xs).length (intCells (cellNums xs)) ∧ In F' w' ∧ Keeps (fun _ => False) w w' ∧ Fresh (fun _ => False) F' w := by
  have HV := hidden h
  clear h
  refine post_gen fun R hR => ?_
  go_enter Try.func64, Try.ntmps64
  go_wp2
  go_loopw [3, 8] (fun o i wr => ∃ (k : Nat) (l : List Int) (A' : Option Addr) (c' : Nat) (F' : Nat → Prop), k ≤ xs.length ∧ i = .int .i64 k ∧ l = cellNums (xs.take k) ∧ o = .slice A' l.length c' ∧ Row wr F' 3 1 (.slice A' l.length c') l.length (intCells l) ∧ Keeps (fun _ => False) w wr ∧ Fresh (fun _ => False) F' w) (fun _ i _ => xs.length - (intOf i).toNat)
  case atStart => exact ⟨0, [], none, 0, fun _ => False, Nat.zero_le _, rfl, rfl, rfl, Row.nil _ _ _ _, Keeps.refl _ _, Fresh.refl _ _⟩
  case round =>
    obtain ⟨k, l, A', c', F', hk, rfl, hl', rfl, hRow, hK, hF⟩ := hrel
    have HR := hidden hRow
    have HL := hidden hl'
    have hll : l.length ≤ xs.length := by rw [hl']; exact Nat.le_trans (cellNums_length _) (by simp; omega)
    clear hRow hl'
    by_cases hlt : k < xs.length
    · obtain ⟨rb, ro, rfl, h0, h1, h2⟩ := (HV.out.keeps hK (fun _ _ _ _ h => h)) k xs[k] (List.getElem?_eq_getElem hlt)
      have hr := World.block_lt_of_cell? wr _ h0
      have HS := hidden (cellNums_succ hlt)
      generalize xs[k] = x at *
      by_cases h4 : x.k = 4
      · rw [h4] at h0
        have HS := hidden (show cellNums (xs.take (k + 1)) = l ++ [x.n] by rw [HS.out, if_pos h4, HL.out])
        clear h4
        go_wp2_with (at_builtin; refine app_list rfl F' _ _ _ _ _ _ 1 8 rfl Try.underlying60 info_int rfl (by decide) _ _ _ rfl ((HR.out.alloc _).alloc _) _ rfl _ _ (int_lit (wr.alloc _) x.n (by simp)) (by omega) (by omega) ?_; intro A2 c2 w2 hR2 hK2; have HR2 := hidden hR2; have HK2 := hidden hK2; clear hR2 hK2)
        go_roundw
        case rel =>
          obtain ⟨g1, g2, g3⟩ := app_lit_end (HR.out.alloc _) (hK.alloc _) hF HR2.out HK2.out
          refine ⟨k + 1, l ++ [x.n], A2, c2, _, hlt, by go_num, HS.out.symm, by simp, ?_, g2, g3⟩
          simpa [intCells] using g1
        case measure => simp [intOf]; omega
      · have HS := hidden (show cellNums (xs.take (k + 1)) = l by rw [HS.out, if_neg h4, HL.out]; simp)
        go_wp2
        go_roundw
        case rel => exact ⟨k + 1, l, A', c', F', hlt, by go_num, HS.out.symm, rfl, HR.out.alloc _, hK.alloc _, hF⟩
        case measure => simp [intOf]; omega
    · obtain rfl : k = xs.length := by omega
      have he : l = cellNums xs := by rw [HL.out, List.take_length]
      go_wp2
      rw [he] at HR
      exact hR.out _ _ ⟨A', c', fun j => F' j ∧ j < wr.heap.size, by rw [he]; rfl, HR.out.mono (fun j h1 h2 => ⟨h2, h1⟩), fun j h => h.2, hK, fun j h => hF j h.1⟩

theorem list_Cells (w : World) (F : Nat → Prop) (b : Nat) (xs : List V) (h : IsList w F b xs) (hl : xs.length ≤ 1099511627776) :
    Calls Try.prog 42 #[.pointer (some ⟨b, 0, none⟩)] w fun e w' => ∃ A' c' F', e = .returned (.slice A' (cellNums xs).length c') ∧ Row w' F' 3 1 (.slice A' (cellNums xs).length c') (cellNums xs).length (intCells (cellNums xs)) ∧ In F' w' ∧ Keeps (fun _ => False) w w' ∧ Fresh (fun _ => False) F' w := by
  obtain ⟨v, h⟩ := h
  obtain ⟨A, c, rfl⟩ := h.row.form
  have c0 : w.cell? ⟨b, 0, none⟩ = some (.slice A xs.length c) := blk_cell h.blk 0
  have key := hidden (value_Cells w A c xs (Vals.own h.row.1) hl)
  clear h
  refine post_gen fun R hR => ?_
  go_enter Try.func42, Try.ntmps42
  go_wp2_with fail
  refine key.out.mono ?_
  rintro e w1 ⟨A', c', F', rfl, hRow, hin, hK, hF⟩
  have HRow := hidden hRow
  clear hRow key
  go_wp2
  exact hR.out _ _ ⟨A', c', F', rfl, HRow.out, hin, hK, hF⟩
end Go.Proofs.Ytcikeaabijfmpaa
