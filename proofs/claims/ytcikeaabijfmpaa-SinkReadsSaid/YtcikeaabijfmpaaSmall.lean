/- Layer 7: dreylaw07.small: are texts of a size with which this is tried? -/
import Derived.Test.YtcikeaabijfmpaaPrints
namespace Go.Proofs.Ytcikeaabijfmpaa
open Go.RowKit

theorem below_keeps {B : Nat} {w w' : World} (h : Below B w w') : Keeps (fun k => B ≤ k) w w' := Keeps.of_below h
theorem Strs.below {w w1 : World} {A : Option Addr} {ss : List ByteArray} (h : Strs w A ss) (hb : Below w.heap.size w w1) : Strs w1 A ss := fun i s hi => by
  obtain ⟨b, o, rfl, hc⟩ := h i s hi
  exact ⟨b, o, rfl, (hb.cell (p := ⟨b, o + i, none⟩) (World.block_lt_of_cell? w _ hc)).trans hc⟩
/-- Rows of texts in a row that is read. -/
def Strss (w : World) (A : Option Addr) (ll : List (List ByteArray)) : Prop := ∀ i l, ll[i]? = some l → ∃ b o A' c, A = some ⟨b, o, none⟩ ∧ w.cell? ⟨b, o + i, none⟩ = some (.slice A' l.length c) ∧ Strs w A' l ∧ l.length ≤ 9223372036854775807 ∧ l.length ≤ c
theorem strss_of {w : World} {A : Option Addr} {ss : List (List ByteArray)} (h : Reads 1 (RStrs w) w A ss) : Strss w A ss := fun i s hi => by
  obtain ⟨b, o, cs, rfl, h1, ⟨A', c, h2, h4, h5⟩, h3⟩ := h i s hi
  subst h2
  exact ⟨b, o, A', c, rfl, by simpa using h3 0 _ rfl, strs_of h4, h5⟩
theorem Strss.below {w w1 : World} {A : Option Addr} {ll : List (List ByteArray)} (h : Strss w A ll) (hb : Below w.heap.size w w1) : Strss w1 A ll := fun i s hi => by
  obtain ⟨b, o, A', c, rfl, hc, hs, hm⟩ := h i s hi
  exact ⟨b, o, A', c, rfl, (hb.cell (p := ⟨b, o + i, none⟩) (World.block_lt_of_cell? w _ hc)).trans hc, hs.below hb, hm⟩

def smallL (l : List ByteArray) : Bool := decide (l.length ≤ 20) && l.all fun s => decide (s.size ≤ 200)
theorem smallL_le {l : List ByteArray} (h : smallL l = true) : (cat l).length ≤ 4000 ∧ l.length ≤ 20 := by
  simp [smallL] at h
  obtain ⟨h1, h2⟩ := h
  refine ⟨?_, h1⟩
  have key : ∀ m : List ByteArray, (∀ s ∈ m, s.size ≤ 200) → (cat m).length ≤ 200 * m.length := by
    intro m
    induction m with
    | nil => intro _; simp [cat]
    | cons s m ih =>
      intro hm
      have := ih (fun s hs => hm s (List.mem_cons_of_mem _ hs))
      have h3 := hm s (List.mem_cons_self)
      have e : s.data.size = s.size := rfl
      simp [cat] at this ⊢
      omega
  have := key l h2
  omega
def smallB (ll : List (List ByteArray)) : Bool := ll.all smallL && decide (ll.length ≤ 40)
theorem all_take {α : Type} (p : α → Bool) (l : List α) (k : Nat) (hk : k < l.length) (h : (l.take k).all p = true) : (l.take (k + 1)).all p = p l[k] := by
  rw [List.take_succ_eq_append_getElem hk, List.all_append, h]; simp
theorem all_false {α : Type} {p : α → Bool} {l : List α} {k : Nat} (hk : k < l.length) (h : p l[k] = false) : l.all p = false := by
  rw [List.all_eq_false]; exact ⟨l[k], List.getElem_mem _, by simp [h]⟩

set_option maxHeartbeats 1000000 in
theorem small_any (w : World) (A : Option Addr) (c : Nat) (ll : List (List ByteArray)) (hs : Strss w A ll) (hl : ll.length ≤ 9223372036854775807) :
    Calls Try.prog 13 #[.slice A ll.length c] w fun e w' => e = .returned (.bool (smallB ll)) ∧ w = w' := by
  have HS := hidden hs
  clear hs
  refine post_gen fun R hR => ?_
  go_enter Try.func13, Try.ntmps13
  go_wp2
  go_loop [9] (fun i => ∃ k : Nat, k ≤ ll.length ∧ i = .int .i64 k ∧ Hid ((ll.take k).all smallL = true)) (fun i => ll.length - (intOf i).toNat)
  case atStart => exact ⟨0, Nat.zero_le _, rfl, hidden (by simp)⟩
  case round =>
    obtain ⟨k, hk, rfl, HA⟩ := hrel
    by_cases hlt : k < ll.length
    · obtain ⟨ab, ao, A', c', rfl, hc, hs', hm', _⟩ := HS.out k _ (List.getElem?_eq_getElem hlt)
      have HS' := hidden hs'
      have HG := hidden (show ll[k] = ll[k] from rfl)
      generalize hl : ll[k] = l at *
      have HL := hidden hl
      clear hs' hl HG
      by_cases h20 : 20 < l.length
      · go_wp2
        refine hR.out _ _ ⟨ret_bool ?_, rfl⟩
        rw [smallB, all_false hlt (by rw [HL.out]; simp [smallL]; omega)]; rfl
      · go_wp2
        go_loop [18] (fun i => ∃ j : Nat, j ≤ l.length ∧ i = .int .i64 j ∧ Hid ((l.take j).all (fun s => decide (s.size ≤ 200)) = true)) (fun i => l.length - (intOf i).toNat)
        case atStart => exact ⟨0, Nat.zero_le _, rfl, hidden (by simp)⟩
        case round =>
          obtain ⟨j, hj, rfl, HB⟩ := hrel
          by_cases hlt2 : j < l.length
          · obtain ⟨sb, so, rfl, hc2⟩ := HS'.out j _ (List.getElem?_eq_getElem hlt2)
            by_cases h200 : 200 < l[j].size
            · go_wp2
              refine hR.out _ _ ⟨ret_bool ?_, rfl⟩
              rw [smallB, all_false hlt (by rw [HL.out, smallL, all_false hlt2 (by simp; omega)]; simp)]; rfl
            · go_wp2
              go_round
              case rel => exact ⟨j + 1, hlt2, by go_num, hidden (by rw [all_take _ _ _ hlt2 HB.out]; simp; omega)⟩
              case measure => simp [intOf]; omega
          · obtain rfl : j = l.length := by omega
            go_wp2
            go_round
            case rel => exact ⟨k + 1, hlt, by go_num, hidden (by have := HB.out; rw [List.take_length] at this; rw [all_take _ _ _ hlt HA.out, HL.out]; simp [smallL]; exact ⟨by omega, by simpa using this⟩)⟩
            case measure => simp [intOf]; omega
    · obtain rfl : k = ll.length := by omega
      go_wp2
      refine hR.out _ _ ⟨ret_bool ?_, rfl⟩
      have := HA.out
      rw [List.take_length] at this
      simp [smallB, this]
      omega
end Go.Proofs.Ytcikeaabijfmpaa
