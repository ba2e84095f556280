/- Rows of values that are read; value.Cells. -/
import Derived.Test.YtpaefeknbpfpmaaVal
namespace Go.Proofs.Ytpaefeknbpfpmaa
open Go.RowKit

/-- Values that stand in a row that is read. -/
def Vals (w : World) (A : Option Addr) (xs : List V) : Prop := ∀ i x, xs[i]? = some x → ∃ b o, A = some ⟨b, o, none⟩ ∧ w.cell? ⟨b, o + i * 3, none⟩ = some (.int .i64 x.k) ∧ w.cell? ⟨b, o + i * 3 + 1, none⟩ = some (.int .i64 x.n) ∧ w.cell? ⟨b, o + i * 3 + 2, none⟩ = some (.string x.t)
theorem Vals.nil (w : World) (A : Option Addr) : Vals w A [] := fun i x h => by simp at h
theorem Vals.keeps {w w1 : World} {S : Nat → Prop} {A : Option Addr} {xs : List V} (h : Vals w A xs) (hk : Keeps S w w1) (hn : 0 < xs.length → ∀ b o, A = some ⟨b, o, none⟩ → ¬ S b) : Vals w1 A xs := fun i x hi => by
  obtain ⟨b, o, rfl, h1, h2, h3⟩ := h i x hi
  have hb := hn (by have := (List.getElem?_eq_some_iff.1 hi).1; omega) b o rfl
  exact ⟨b, o, rfl, hk.cell h1 hb, hk.cell h2 hb, hk.cell h3 hb⟩
theorem Vals.lt {w : World} {A : Option Addr} {xs : List V} (h : Vals w A xs) : 0 < xs.length → ∀ b o, A = some ⟨b, o, none⟩ → b < w.heap.size := by
  intro h0 b o hA
  obtain ⟨b', o', he, hc, _⟩ := h 0 _ (List.getElem?_eq_getElem h0)
  rw [hA] at he
  simp at he
  obtain ⟨rfl, rfl⟩ := he
  exact World.block_lt_of_cell? w _ hc
theorem Vals.below {w w1 : World} {A : Option Addr} {xs : List V} (h : Vals w A xs) (hb : Below w.heap.size w w1) : Vals w1 A xs :=
  h.keeps (Keeps.of_below hb) (fun h0 b o hA hS => by have := h.lt h0 b o hA; omega)
theorem add_at3 (g o j : Nat) : (⟨g, o, none⟩ : Addr).add j = ⟨g, o + j, none⟩ := by unfold Addr.add; split <;> simp_all
theorem flat_at {xs : List V} {j : Nat} {u : Value} (h : (flat xs)[j]? = some u) : ∃ x, xs[j / 3]? = some x ∧ x.cells[j % 3]? = some u := by
  have hl := (List.getElem?_eq_some_iff.1 h).1
  rw [flat_length] at hl
  have hi : j / 3 < xs.length := by omega
  refine ⟨xs[j / 3], List.getElem?_eq_getElem hi, ?_⟩
  have := flat_get xs (j / 3) _ (List.getElem?_eq_getElem hi) (j % 3) (by omega)
  rw [← this, ← h]
  congr 1
  omega
theorem Vals.src {P : Program} {w : World} {A : Option Addr} {xs : List V} {c : Nat} {tx e : TypeId} (h : Vals w A xs) (hk : P.underlying tx = some (.slice e)) : Src P 3 tx (.slice A xs.length c) xs.length (flat xs) w := by
  cases hs : xs with
  | nil =>
    cases A with
    | none => exact Src.ofNil w hk c
    | some a => exact Src.ofSlice w hk a 0 c [] rfl (by simp) (by simp)
  | cons s l =>
    obtain ⟨b, o, rfl, _⟩ := h 0 s (by simp [hs])
    rw [← hs]
    refine Src.ofSlice w hk _ _ c _ (flat_length xs) ?_ (flat_one xs)
    intro j u hu
    obtain ⟨x, h1, h2⟩ := flat_at hu
    obtain ⟨b', o', he, hc1, hc2, hc3⟩ := h _ x h1
    simp at he
    obtain ⟨rfl, rfl⟩ := he
    rw [add_at3]
    have hj : j % 3 = 0 ∨ j % 3 = 1 ∨ j % 3 = 2 := by omega
    rcases hj with hj | hj | hj <;> rw [hj] at h2 <;> simp [V.cells] at h2 <;> subst h2
    · rw [show o + j = o + j / 3 * 3 by omega]; exact hc1
    · rw [show o + j = o + j / 3 * 3 + 1 by omega]; exact hc2
    · rw [show o + j = o + j / 3 * 3 + 2 by omega]; exact hc3
theorem Vals.own {w : World} {base e n c : Nat} {A : Option Addr} {xs : List V} (h : w.ownsRow base e 3 (.slice A n c) n (flat xs)) : Vals w A xs := fun i x hi => by
  have hil := (List.getElem?_eq_some_iff.1 hi).1
  rcases h.2 with ⟨h1, h2⟩ | ⟨g, cap, cur, h1, _⟩
  · have := h.1
    rw [flat_length] at this
    omega
  · simp at h1
    obtain ⟨rfl, rfl⟩ := h1
    have hc := h.cells (g := g) rfl
    refine ⟨g, 0, rfl, ?_, ?_, ?_⟩
    · have := hc (i * 3 + 0) _ ((flat_get xs i x hi 0 (by omega)).trans rfl)
      rwa [add_at3] at this
    · have := hc (i * 3 + 1) _ ((flat_get xs i x hi 1 (by omega)).trans rfl)
      rwa [add_at3, ← Nat.add_assoc] at this
    · have := hc (i * 3 + 2) _ ((flat_get xs i x hi 2 (by omega)).trans rfl)
      rwa [add_at3, ← Nat.add_assoc] at this
theorem Vals.lit (w : World) (xs : List V) (t : TypeId) {n : Nat} (hn : n = w.heap.size) : Vals (w.alloc (.cells (flat xs).toArray t)) (some ⟨n, 0, none⟩) xs := fun i x hi => by
  subst hn
  refine ⟨_, _, rfl, ?_, ?_, ?_⟩
  · rw [blk_cell (blk_new w _)]; simpa [V.cells] using flat_get xs i x hi 0 (by omega)
  · rw [blk_cell (blk_new w _)]; simpa [V.cells] using flat_get xs i x hi 1 (by omega)
  · rw [blk_cell (blk_new w _)]; simpa [V.cells] using flat_get xs i x hi 2 (by omega)

/-- The cells among values, in order. -/
def cellNums (xs : List V) : List Int := (xs.filter fun x => x.k == 4).map (·.n)
def intCells (l : List Int) : List Value := l.map (.int .i64)
theorem info_int : (Try.prog.info? 3).map (fun i => (i.zero, i.size, i.bytes)) = some (some (.int .i64 0), 1, 8) := by kernel_rfl
theorem int_lit (w : World) (n : Int) {m : Nat} (hm : m = w.heap.size) : Src Try.prog 1 43 (.slice (some ⟨m, 0, none⟩) 1 1) 1 [.int .i64 n] (w.alloc (.cells #[.int .i64 n] 3)) :=
  hm ▸ Src.ofSlice _ Try.underlying43 _ _ 1 _ rfl (fun j u hj => by
    rw [add_at3, blk_cell (blk_new w _)]
    cases j with
    | zero => simpa using hj
    | succ j => simp at hj) (fun u hu => by simp at hu; subst hu; rfl)
theorem cellNums_succ {xs : List V} {k : Nat} (hk : k < xs.length) : cellNums (xs.take (k + 1)) = cellNums (xs.take k) ++ (if xs[k].k = 4 then [xs[k].n] else []) := by
  rw [List.take_add_one, List.getElem?_eq_getElem hk]
  simp only [cellNums, List.filter_append, List.map_append, Option.toList_some]
  congr 1
  by_cases h : xs[k].k = 4 <;> simp [h]
theorem cellNums_length (xs : List V) : (cellNums xs).length ≤ xs.length := by simp only [cellNums, List.length_map]; exact List.length_filter_le _ _

set_option maxHeartbeats 1000000 in
theorem value_Cells (w : World) (A : Option Addr) (c : Nat) (xs : List V) (h : Vals w A xs) (hl : xs.length ≤ 1099511627776) :
    Calls Try.prog 34 #[.slice A xs.length c] w fun e w' => ∃ A' c' F', e = .returned (.slice A' (cellNums xs).length c') ∧ Row w' F' 3 1 (.slice A' (cellNums xs).length c') (cellNums xs).length (intCells (cellNums xs)) ∧ In F' w' ∧ Keeps (fun _ => False) w w' ∧ Fresh (fun _ => False) F' w := by
  have HV := hidden h
  clear h
  refine post_gen fun R hR => ?_
  go_enter Try.func34, Try.ntmps34
  go_wp2
  go_loopw [3, 8] (fun o i wr => ∃ (k : Nat) (l : List Int) (A' : Option Addr) (c' : Nat) (F' : Nat → Prop), k ≤ xs.length ∧ i = .int .i64 k ∧ l = cellNums (xs.take k) ∧ o = .slice A' l.length c' ∧ Row wr F' 3 1 (.slice A' l.length c') l.length (intCells l) ∧ Keeps (fun _ => False) w wr ∧ Fresh (fun _ => False) F' w) (fun _ i _ => xs.length - (intOf i).toNat)
  case atStart => exact ⟨0, [], none, 0, fun _ => False, Nat.zero_le _, rfl, rfl, rfl, Row.nil _ _ _ _, Keeps.refl _ _, Fresh.refl _ _⟩
  case round =>
    obtain ⟨k, l, A', c', F', hk, rfl, hl', rfl, hRow, hK, hF⟩ := hrel
    have HR := hidden hRow
    have HL := hidden hl'
    have hll : l.length ≤ xs.length := by rw [hl']; exact Nat.le_trans (cellNums_length _) (by simp; omega)
    clear hRow hl'
    by_cases hlt : k < xs.length
    · obtain ⟨rb, ro, rfl, h0, h1, h2⟩ := (HV.out.keeps hK (fun _ _ _ _ h => h)) k xs[k] (List.getElem?_eq_getElem hlt)
      have hr := World.block_lt_of_cell? wr _ h0
      have HS := hidden (cellNums_succ hlt)
      generalize xs[k] = x at *
      by_cases h4 : x.k = 4
      · rw [h4] at h0
        have HS := hidden (show cellNums (xs.take (k + 1)) = l ++ [x.n] by rw [HS.out, if_pos h4, HL.out])
        clear h4
        go_wp2_with (at_builtin; refine app_list rfl F' _ _ _ _ _ _ 1 8 rfl Try.underlying43 info_int rfl (by decide) _ _ _ rfl ((HR.out.alloc _).alloc _) _ rfl _ _ (int_lit (wr.alloc _) x.n (by simp)) (by omega) (by omega) ?_; intro A2 c2 w2 hR2 hK2; have HR2 := hidden hR2; have HK2 := hidden hK2; clear hR2 hK2)
        go_roundw
        case rel =>
          obtain ⟨g1, g2, g3⟩ := app_lit_end (HR.out.alloc _) (hK.alloc _) hF HR2.out HK2.out
          refine ⟨k + 1, l ++ [x.n], A2, c2, _, hlt, by go_num, HS.out.symm, by simp, ?_, g2, g3⟩
          simpa [intCells] using g1
        case measure => simp [intOf]; omega
      · have HS := hidden (show cellNums (xs.take (k + 1)) = l by rw [HS.out, if_neg h4, HL.out]; simp)
        go_wp2
        go_roundw
        case rel => exact ⟨k + 1, l, A', c', F', hlt, by go_num, HS.out.symm, rfl, HR.out.alloc _, hK.alloc _, hF⟩
        case measure => simp [intOf]; omega
    · obtain rfl : k = xs.length := by omega
      have he : l = cellNums xs := by rw [HL.out, List.take_length]
      go_wp2
      rw [he] at HR
      exact hR.out _ _ ⟨A', c', fun j => F' j ∧ j < wr.heap.size, by rw [he]; rfl, HR.out.mono (fun j h1 h2 => ⟨h2, h1⟩), fun j h => h.2, hK, fun j h => hF j h.1⟩

end Go.Proofs.Ytpaefeknbpfpmaa
