/- Layer 4: lists turned round, inserted into: contracts. -/
import Derived.Test.YtpaefeknbpfpmaaListC
import Derived.Test.YtpaefeknbpfpmaaCopy
namespace Go.Proofs.Ytpaefeknbpfpmaa
open Go.RowKit

theorem flat_drop (xs : List V) (i : Nat) (hi : i ≤ xs.length) : flat (xs.drop i) = (flat xs).drop (i * 3) := by
  have h := flat_append (xs.take i) (xs.drop i)
  rw [List.take_append_drop] at h
  have hl : (flat (xs.take i)).length = i * 3 := by rw [flat_length, List.length_take, Nat.min_eq_left hi]
  rw [h, ← hl, List.drop_left]
theorem info_val3 : (Try.prog.info? 30).map (·.size) = some 3 := by kernel_rfl

/-- The first k pairs are turned. -/
def turned (xs : List V) (k : Nat) : List V := (List.range xs.length).map fun p => if p < k ∨ xs.length ≤ p + k then xs.getD (xs.length - 1 - p) V.null else xs.getD p V.null
theorem turned_length (xs : List V) (k : Nat) : (turned xs k).length = xs.length := by simp [turned]
theorem turned_get {xs : List V} {k p : Nat} (hp : p < (turned xs k).length) : (turned xs k)[p] = if p < k ∨ xs.length ≤ p + k then xs.getD (xs.length - 1 - p) V.null else xs.getD p V.null := by simp [turned]
theorem turned_zero (xs : List V) : turned xs 0 = xs := by
  apply List.ext_getElem (turned_length xs 0)
  intro p h1 h2
  rw [turned_get, if_neg (by omega)]
  simp [h2]
theorem turned_all {xs : List V} {k : Nat} (hk : xs.length ≤ 2 * k + 1) (hk' : 2 * k ≤ xs.length) : turned xs k = xs.reverse := by
  apply List.ext_getElem (by rw [turned_length]; simp)
  intro p h1 h2
  rw [turned_length] at h1
  rw [turned_get, List.getElem_reverse]
  split
  · rw [List.getD_eq_getElem?_getD, List.getElem?_eq_getElem (by omega)]; rfl
  · rw [List.getD_eq_getElem?_getD, List.getElem?_eq_getElem (by omega)]
    have : p = xs.length - 1 - p := by omega
    show xs[p] = _
    congr 1
theorem turned_mid {xs : List V} {k p : Nat} (h : k ≤ p) (h' : p + k < xs.length) : (turned xs k)[p]'(by rw [turned_length]; omega) = xs.getD p V.null := by
  rw [turned_get, if_neg (by omega)]
theorem turned_succ {xs : List V} {k m : Nat} (hm : m + k + 1 = xs.length) (hk : k < m) :
    ((turned xs k).set k (xs.getD m V.null)).set m (xs.getD k V.null) = turned xs (k + 1) := by
  apply List.ext_getElem (by simp [turned_length])
  intro p h1 h2
  rw [turned_length] at h2
  rw [turned_get, List.getElem_set, List.getElem_set]
  by_cases e1 : m = p
  · rw [if_pos e1, if_pos (by omega)]
    congr 1; omega
  · rw [if_neg e1]
    by_cases e2 : k = p
    · rw [if_pos e2, if_pos (by omega)]
      congr 1; omega
    · rw [if_neg e2, turned_get]
      by_cases e3 : p < k ∨ xs.length ≤ p + k
      · rw [if_pos e3, if_pos (by omega)]
      · rw [if_neg e3, if_neg (by omega)]

theorem slices_Reverse (w : World) (F : Nat → Prop) (A : Option Addr) (c : Nat) (xs : List V) (h : Row w F 30 3 (.slice A xs.length c) xs.length (flat xs)) (hl : xs.length ≤ 4398046511104) :
    Calls Try.prog 87 #[.slice A xs.length c] w fun e w' => e = .returned (.tuple #[]) ∧ Row w' F 30 3 (.slice A xs.length c) xs.length (flat xs.reverse) ∧ Keeps (fun k => (Value.slice A xs.length c).ownBlock = some k) w w' := by
  have H := hidden h
  clear h
  refine post_gen fun R hR => ?_
  go_enter Try.func87, Try.ntmps87
  go_wp2
  go_loopw [2, 3] (fun i j wr => ∃ k : Nat, 2 * k ≤ xs.length ∧ i = .int .i64 k ∧ j = .int .i64 ((xs.length : Int) - 1 - k) ∧ Row wr F 30 3 (.slice A xs.length c) xs.length (flat (turned xs k)) ∧ Keeps (fun k => (Value.slice A xs.length c).ownBlock = some k) w wr) (fun i _ _ => xs.length - (intOf i).toNat)
  case atStart => exact ⟨0, Nat.zero_le _, rfl, by simp, by rw [turned_zero]; exact H.out, Keeps.refl _ _⟩
  case round =>
    obtain ⟨k, hk, rfl, rfl, hRow, hK⟩ := hrel
    have HR := hidden hRow
    have HK := hidden hK
    by_cases hlt : 2 * k + 1 < xs.length
    · obtain ⟨m, hm⟩ : ∃ m, m + k + 1 = xs.length := ⟨xs.length - 1 - k, by omega⟩
      have hl1 := turned_length xs k
      obtain ⟨g, rfl, hg, hgw, h0, h1, h2, f0, f1, f2⟩ := hRow.open3 (i := k) (by omega)
      obtain ⟨g', e', hg', hgw', h0', h1', h2', f0', f1', f2'⟩ := hRow.open3 (i := m) (by omega)
      simp at e'
      subst e'
      rw [turned_mid (by omega) (by omega)] at h0 h1 h2 h0' h1' h2'
      have hj : (xs.length : Int) - 1 - k = m := by omega
      have hkm : k < m := by omega
      have HT := hidden ((hRow.put3 (i := k) (by omega) (xs.getD m V.null)).put3 (i := m) (by simp; omega) (xs.getD k V.null))
      rw [turned_succ hm hkm] at HT
      rw [hj]
      clear hRow hK
      generalize xs.getD m V.null = vm at *
      generalize xs.getD k V.null = vk at *
      go_wp2
      go_region
      go_wp2
      go_roundw
      case rel =>
        refine ⟨k + 1, by omega, by go_num, by congr 1; omega, HT.out.drew, ?_⟩
        have h1 := ((SameBut.refl g wr).put3 k vm).put3 m vk
        exact (HK.out.trans (h1.keeps.mono (T := fun k => (Value.slice (some ⟨g, 0, none⟩) xs.length c).ownBlock = some k) (fun i _ h => by simp [Value.ownBlock, h])) (fun i _ h => h)).drew
      case measure => simp [intOf]; omega
    · have hj : ¬ ((k : Int) < (xs.length : Int) - 1 - k) := by omega
      go_wp2
      go_end0
      refine hR.out _ _ ⟨rfl, ?_, HK.out⟩
      rw [← turned_all (k := k) (by omega) (by omega)]
      exact HR.out

theorem list_Reverse (w : World) (F : Nat → Prop) (b : Nat) (xs : List V) (h : IsList w F b xs) (hl : xs.length ≤ 4398046511104) :
    Calls Try.prog 46 #[.pointer (some ⟨b, 0, none⟩)] w fun e w' => e = .returned (.tuple #[]) ∧ IsList w' F b xs.reverse ∧ Keeps F w w' := by
  obtain ⟨v, h⟩ := h
  obtain ⟨A, c, rfl⟩ := h.row.form
  have H := hidden h
  have c0 : w.cell? ⟨b, 0, none⟩ = some (.slice A xs.length c) := blk_cell h.blk 0
  have key := hidden (slices_Reverse w F A c xs h.row hl)
  clear h
  refine post_gen fun R hR => ?_
  go_enter Try.func46, Try.ntmps46
  go_wp2_with fail
  refine key.out.mono ?_
  rintro e w1 ⟨rfl, hRow, hK⟩
  have HRow := hidden hRow
  clear hRow key
  go_wp2
  have hk : Keeps F w w1 := hK.mono (fun i _ hi => H.out.row.2 i hi)
  go_end0
  exact hR.out _ _ ⟨rfl, ⟨_, hK.heap H.out.blk (fun e => H.out.row.ne H.out.blk (by decide) b e rfl), H.out.here, by simpa using HRow.out, H.out.inw.keeps hk⟩, hk⟩

theorem laid_at {w : World} {g i : Nat} {cur : Array Value} {xs : List V} (hg : w.heap[g]? = some (.cells cur 30 (0, 0))) (hx : cur.toList.take (xs.length * 3) = flat xs) (hi : i ≤ xs.length) :
    ∀ j v, (flat (xs.drop i))[j]? = some v → w.cell? ((⟨g, i * 3, none⟩ : Addr).add j) = some v := by
  intro j v hj
  rw [flat_drop xs i hi, ← hx, List.getElem?_drop, List.getElem?_take] at hj
  rw [add_at3, blk_cell hg]
  split at hj
  · simpa using hj
  · simp at hj

theorem Keeps.undrew {S : Nat → Prop} {w w1 : World} (h : Keeps S w.drew w1) : Keeps S w w1 := ⟨h.os, h.tape, h.output, h.size, h.block⟩
theorem insert_grow {L L2 : List Value} {xs : List V} {y : V} {i : Nat} (h0 : L2.take (i * 3) = L.take (i * 3)) (h1 : L.take (i * 3) = flat (xs.take i)) (h2 : (flat (xs.drop i)).length = (xs.length - i) * 3) (h3 : (xs.length + 1) * 3 ≤ L2.length) (hi : i ≤ xs.length) :
    (laid (laid L2 (i * 3) y.cells).toList ((i + 1) * 3) (flat (xs.drop i))).toList.take ((xs.length + 1) * 3) = flat (xs.take i ++ y :: xs.drop i) := by
  have e : flat (xs.take i ++ y :: xs.drop i) = (flat (xs.take i) ++ y.cells) ++ flat (xs.drop i) := by simp [flat]
  have hy : y.cells.length = 3 := rfl
  have hl0 : (flat (xs.take i)).length = i * 3 := by rw [← h1, ← h0, List.length_take]; omega
  have a1 : (laid L2 (i * 3) y.cells).toList = (flat (xs.take i) ++ y.cells) ++ L2.drop (i * 3 + y.cells.length) := by
    show (List.toArray _).toList = _
    rw [List.toList_toArray, h0, h1]
  have hl1 : (flat (xs.take i) ++ y.cells).length = (i + 1) * 3 := by rw [List.length_append, hl0, hy]; omega
  have a2 : (laid L2 (i * 3) y.cells).toList.take ((i + 1) * 3) = flat (xs.take i) ++ y.cells := by
    rw [a1, ← hl1, List.take_left]
  have a3 : (laid (laid L2 (i * 3) y.cells).toList ((i + 1) * 3) (flat (xs.drop i))).toList = ((flat (xs.take i) ++ y.cells) ++ flat (xs.drop i)) ++ (laid L2 (i * 3) y.cells).toList.drop ((i + 1) * 3 + (flat (xs.drop i)).length) := by
    show (List.toArray _).toList = _
    rw [List.toList_toArray, a2]
  have hlen : ((flat (xs.take i) ++ y.cells) ++ flat (xs.drop i)).length = (xs.length + 1) * 3 := by
    rw [List.length_append, hl1, h2]; omega
  rw [a3, e, ← hlen, List.take_left]
theorem V.one (y : V) : ∀ v ∈ y.cells, v.oneCell' = true := by
  intro v hv
  simp [V.cells] at hv
  rcases hv with rfl | rfl | rfl <;> rfl
theorem y_src {w : World} {vb : Nat} {y : V} (h : IsVar w vb y) : ∀ j v, y.cells[j]? = some v → w.cell? ((⟨vb, 0, none⟩ : Addr).add j) = some v := by
  intro j v hj
  rw [add_at3, Nat.zero_add, blk_cell h]
  simpa [V.cells] using hj
theorem insert_shift {L : List Value} {xs : List V} {y : V} {i : Nat} (h1 : L.take (i * 3) = flat (xs.take i)) (h2 : (flat (xs.drop i)).length = (xs.length - i) * 3) (h3 : (xs.length + 1) * 3 ≤ L.length) (hi : i ≤ xs.length) :
    (laid (laid L ((i + 1) * 3) (flat (xs.drop i))).toList (i * 3) y.cells).toList.take ((xs.length + 1) * 3) = flat (xs.take i ++ y :: xs.drop i) := by
  have e : flat (xs.take i ++ y :: xs.drop i) = flat (xs.take i) ++ (y.cells ++ flat (xs.drop i)) := by simp [flat]
  have hy : y.cells.length = 3 := rfl
  have hl0 : (L.take (i * 3)).length = i * 3 := by rw [List.length_take]; omega
  have hl1 : (L.take ((i + 1) * 3)).length = (i + 1) * 3 := by rw [List.length_take]; omega
  have a1 : (laid L ((i + 1) * 3) (flat (xs.drop i))).toList = L.take ((i + 1) * 3) ++ (flat (xs.drop i) ++ L.drop ((i + 1) * 3 + (flat (xs.drop i)).length)) := by simp [laid]
  have a2 : (laid L ((i + 1) * 3) (flat (xs.drop i))).toList.take (i * 3) = flat (xs.take i) := by
    rw [a1, List.take_append_of_le_length (by omega), List.take_take, ← h1]
    congr 1; omega
  have a3 : (laid L ((i + 1) * 3) (flat (xs.drop i))).toList.drop (i * 3 + y.cells.length) = flat (xs.drop i) ++ L.drop ((i + 1) * 3 + (flat (xs.drop i)).length) := by
    rw [a1, hy, show i * 3 + 3 = (i + 1) * 3 by omega]
    have := List.drop_left (l₁ := L.take ((i + 1) * 3)) (l₂ := flat (xs.drop i) ++ L.drop ((i + 1) * 3 + (flat (xs.drop i)).length))
    rwa [hl1] at this
  have a4 : (laid (laid L ((i + 1) * 3) (flat (xs.drop i))).toList (i * 3) y.cells).toList = (flat (xs.take i) ++ (y.cells ++ flat (xs.drop i))) ++ L.drop ((i + 1) * 3 + (flat (xs.drop i)).length) := by
    show (List.toArray _).toList = _
    rw [List.toList_toArray, a2, a3]
    simp
  have hlen : (flat (xs.take i) ++ (y.cells ++ flat (xs.drop i))).length = (xs.length + 1) * 3 := by
    rw [List.length_append, List.length_append, h2, hy, ← h1, hl0]; omega
  rw [a4, e, ← hlen, List.take_left]
set_option maxRecDepth 100000 in
set_option maxHeartbeats 1000000 in
theorem slices_Insert (w : World) (F : Nat → Prop) (A : Option Addr) (c : Nat) (xs : List V) (i : Nat) (y : V) (vb : Nat) (h : Row w F 30 3 (.slice A xs.length c) xs.length (flat xs)) (hl : xs.length ≤ 4194304) (hi : i ≤ xs.length) (hy : IsVar w vb y) (hn : ¬ F vb) :
    Calls Try.prog 85 #[.slice A xs.length c, .int .i64 i, .slice (some ⟨vb, 0, none⟩) 1 1] w fun e w' => ∃ A' c', e = .returned (.slice A' (xs.length + 1) c') ∧ Row w' (fun k => F k ∨ w.heap.size ≤ k) 30 3 (.slice A' (xs.length + 1) c') (xs.length + 1) (flat (xs.take i ++ y :: xs.drop i)) ∧ Keeps (fun k => (Value.slice A xs.length c).ownBlock = some k) w w' := by
  have H := hidden h
  have HY := hidden hy
  have hYV : Hid (Vals w (some ⟨vb, 0, none⟩) [y]) := hidden (fun j x hj => by
    obtain ⟨h0, h1, h2, _⟩ := hy.cells
    cases j with
    | zero => simp at hj; subst hj; exact ⟨vb, 0, rfl, by simpa using h0, by simpa using h1, by simpa using h2⟩
    | succ j => simp at hj)
  have hcap := h.cap
  clear hy
  refine post_gen fun R hR => ?_
  by_cases hin : i = xs.length
  · subst hin
    clear h
    go_enter Try.func85, Try.ntmps85
    go_wp2_with (at_builtin; refine app_list rfl F _ _ _ _ _ _ 3 32 rfl Try.underlying60 info_val rfl (by decide) (.slice A xs.length c) _ _ rfl H.out _ rfl 1 _ (hYV.out.src Try.underlying60) (by omega) (by omega) ?_; intro A2 c2 w1 hR2 hK2; have HR2 := hidden hR2; have HK2 := hidden hK2; clear hR2 hK2)
    all_goals
      refine hR.out _ _ ⟨A2, c2, rfl, ?_, HK2.out⟩
      have e : flat (xs.take xs.length ++ y :: xs.drop xs.length) = flat xs ++ flat [y] := by simp [flat_append]
      rw [e]
      exact HR2.out
  · have hin' : i < xs.length := by omega
    obtain ⟨g, cur, rfl, hFg, hg, _, hcm, hcs, htk⟩ := h.blk (by omega)
    have hgvb : g ≠ vb := fun e => hn (e ▸ hFg)
    have HG := hidden hg
    have HTK := hidden htk
    have HFG := hidden hFg
    have hov : ∀ (W : World) (lb cb off : Nat), Keeps (fun _ => False) w W → (callFunc 96 #[.slice (some ⟨vb, 0, none⟩) 1 1, .slice (some ⟨g, off, none⟩) lb cb]).run Try.prog W = .ok (.value (.bool false)) W := fun W lb cb off hW => by
      have h1 := hW.heap HY.out (fun h => h)
      have h2 := hW.heap HG.out (fun h => h)
      rw [run_callFunc_extern Try.func96 (by kernel_rfl) (by kernel_rfl) (by kernel_rfl) (e := Extern.SlicesOverlaps.overlaps #[60, 60] #[4]) (by kernel_rfl),
        Lib.run_overlaps_apart W 60 4 30 Try.underlying60 3 (fun w => by simp [go_sem, sizeOf, typeInfo]; kernel_rfl) ⟨vb, 0, none⟩ ⟨g, off, none⟩ 1 1 lb cb (fun e => hgvb e.symm) _ _ _ _ (by simp [World.shape?, h1]; exact ⟨rfl, rfl⟩) (by simp [World.shape?, h2]; exact ⟨rfl, rfl⟩) (by rw [hcs]; omega) (blk_frozen h1 0) (blk_frozen h1 _)]
      rfl
    have ho := fun lb cb off => hov w lb cb off (Keeps.refl _ _)
    clear hov h hg
    have e1 : cur.toList.take (i * 3) = flat (xs.take i) := by
      rw [← flat_take, ← htk, List.take_take]
      congr 1
      exact (Nat.min_eq_left (by omega)).symm
    have e2 : (flat (xs.drop i)).length = (xs.length - i) * 3 := by rw [flat_length, List.length_drop]
    have HE1 := hidden e1
    have HE2 := hidden e2
    have hcs' : cur.toList.length = c * 3 := by simpa using hcs
    clear htk e1 e2
    by_cases hroom : xs.length + 1 ≤ c
    · go_enter Try.func85, Try.ntmps85
      go_wp2_with (simp only [ho])
      have hz1 : ¬ (c = i + 1) := by omega
      have hz2 : ¬ (c = i) := by omega
      have hw1 : IntKind.i64.wrap ((i : Int) + 1) = (i : Int) + 1 := by rw [IntKind.wrap_i64]; omega
      have hw2 : (0 : Int) ≤ (i : Int) + 1 := by omega
      have hw3 : ((i : Int) + 1).toNat = i + 1 := by omega
      have hw4 : (i : Int) ≤ (xs.length : Int) := by omega
      have hw5 : (i : Int) ≤ (xs.length : Int) + 1 := by omega
      go_region_law (refine copy_step rfl _ _ _ _ rfl 30 3 Try.underlying60 info_val3 (g := g) (go' := (i + 1) * 3) (dLen := xs.length + 1 - (i + 1)) (dCap := c - (i + 1)) (by simp [Act.eval, Act.put]) (sp := ⟨g, i * 3, none⟩) (sLen := xs.length + 1 - i) (sCap := c - i) (by simp [Act.eval, Act.put]) ((i + 1) * 3) (xs.length - i) rfl (by simp [Nat.min_def]; omega) cur _ HG.out (flat (xs.drop i)) HE2.out (laid_at HG.out HTK.out hi) (by rw [HE2.out, hcs]; omega) (flat_one _) ?_; intro w1 hg1 hk1; have HG1 := hidden hg1; have HK1 := hidden hk1; clear hg1 hk1)
      have hg1 := HK1.out.heap (w := w.drew) (k := vb) HY.out (fun e => hgvb e.symm)
      have HS := hidden (fun j v hj => y_src hg1 j v hj)
      clear hg1
      have hlen := laid_size (L := cur.toList) (o := (i + 1) * 3) (cs := flat (xs.drop i)) (by rw [HE2.out, hcs']; omega)
      have HFit := hidden (show i * 3 + y.cells.length ≤ (laid cur.toList ((i + 1) * 3) (flat (xs.drop i))).size by rw [hlen, hcs']; show i * 3 + 3 ≤ _; omega)
      go_wp2_with ((refine copy_list rfl _ _ _ _ rfl 30 3 Try.underlying60 info_val3 (g := g) (go' := i * 3) (dLen := xs.length + 1 - i) (dCap := c - i) rfl (sp := ⟨vb, 0, none⟩) (sLen := 1) (sCap := 1) rfl (i * 3) 1 rfl (by simp [Nat.min_def]; try omega) _ _ HG1.out y.cells rfl HS.out HFit.out y.one ?_); intro w2 hg2 hk2; have HG2 := hidden hg2; have HK2 := hidden hk2; clear hg2 hk2)
      have hR2 : Row w2 (fun k => F k ∨ w.heap.size ≤ k) 30 3 (.slice (some ⟨g, 0, none⟩) (xs.length + 1) c) (xs.length + 1) (flat (xs.take i ++ y :: xs.drop i)) :=
        Row.ofBlk HG2.out (.inl hFg) hroom hcm (by rw [laid_size (by simpa using HFit.out)]; simp [hlen, hcs']) (insert_shift HE1.out HE2.out (by rw [hcs']; omega) hi)
      exact hR.out _ _ ⟨_, c, rfl, hR2, (HK1.out.undrew.trans HK2.out (fun _ _ h => h)).mono (T := fun k => (Value.slice (some ⟨g, 0, none⟩) xs.length c).ownBlock = some k) (fun k _ e => by simp [Value.ownBlock, e])⟩
    · have hz2 : ¬ (c = i) := by omega
      have hw1 : IntKind.i64.wrap ((i : Int) + 1) = (i : Int) + 1 := by rw [IntKind.wrap_i64]; omega
      have hw2 : (0 : Int) ≤ (i : Int) + 1 := by omega
      have hw3 : ((i : Int) + 1).toNat = i + 1 := by omega
      have hw4 : (i : Int) ≤ (xs.length : Int) := by omega
      have hw5 : (i : Int) ≤ (xs.length : Int) + 1 := by omega
      have hgl := blk_lt HG.out
      have hvl := blk_lt HY.out
      go_enter Try.func85, Try.ntmps85
      have HS := hidden (fun (W : World) (hk : Keeps (fun _ => False) w W) => y_src (hk.heap HY.out (fun h => h)))
      have HFit := hidden (fun (c1 : Nat) (cur1 : Array Value) (hs : cur1.size = c1 * 3) (hc : xs.length + 1 ≤ c1) => show i * 3 + y.cells.length ≤ cur1.size by rw [hs]; show i * 3 + 3 ≤ _; omega)
      go_wp2_with (first | (at_builtin; (refine appz_list rfl _ _ _ _ 30 .i64 _ 3 32 rfl Try.underlying60 Try.underlying3 info_val rfl (by decide) (g := g) (i' := i) (c := c) rfl (kq := .i64) (k' := (xs.length : Int) + 1 - i) rfl i (xs.length + 1 - i) (xs.length + 1) rfl (by omega) (by omega) cur _ HG.out (by rw [hcs]; omega) (by omega) (by omega) (by omega) (by omega) ?_); intro c1 cur1 w1 hc1 hcm1 hg1 hs1 ht1 hk1; have HG1 := hidden hg1; have HK1 := hidden hk1; have HT1 := hidden ht1; clear hg1 hk1 ht1) | (refine copy_list rfl _ _ _ _ rfl 30 3 Try.underlying60 info_val3 (g := w.heap.size) (go' := i * 3) (dLen := xs.length + 1 - i) (dCap := c1 - i) rfl (sp := ⟨vb, 0, none⟩) (sLen := 1) (sCap := 1) rfl (i * 3) 1 rfl (by simp [Nat.min_def]; try omega) _ _ HG1.out y.cells rfl (HS.out _ HK1.out) (HFit.out _ _ hs1 hc1) y.one ?_; intro w2 hg2 hk2; have HG2 := hidden hg2; have HK2 := hidden hk2; clear hg2 hk2))
      have hz1 : ¬ (c1 = i + 1) := by clear hw3 hw2 hw1 hw4 hw5; omega
      have hk12 : Keeps (fun _ => False) w w2 := HK1.out.trans (HK2.out.mono (T := fun k => w.heap.size ≤ k) (fun k _ e => by omega)) (fun k hk h => by omega)
      have HK12 := hidden hk12
      have HGG := hidden (hk12.heap HG.out (fun h => h))
      have HSS := hidden (laid_at HGG.out HTK.out hi)
      have hlen := laid_size (L := cur1.toList) (o := i * 3) (cs := y.cells) (by have := HFit.out _ _ hs1 hc1; simpa using this)
      have HFF := hidden (show (i + 1) * 3 + (flat (xs.drop i)).length ≤ (laid cur1.toList (i * 3) y.cells).size by rw [hlen, HE2.out]; simp [hs1]; omega)
      have HL1 := hidden (show (laid cur1.toList (i * 3) y.cells).toList.length = c1 * 3 by simpa [hs1] using hlen)
      clear hk12 hlen
      go_region_law (refine copy_step rfl _ _ _ _ rfl 30 3 Try.underlying60 info_val3 (g := w.heap.size) (go' := (i + 1) * 3) (dLen := xs.length + 1 - (i + 1)) (dCap := c1 - (i + 1)) (by simp [Act.eval, Act.put]) (sp := ⟨g, i * 3, none⟩) (sLen := xs.length - i) (sCap := c - i) (by simp [Act.eval, Act.put]) ((i + 1) * 3) (xs.length - i) rfl (by simp) _ _ HG2.out (flat (xs.drop i)) HE2.out HSS.out HFF.out (flat_one _) ?_; intro w3 hg3 hk3; have HG3 := hidden hg3; have HK3 := hidden hk3; clear hg3 hk3)
      go_wp2
      have hR2 : Row w3 (fun k => F k ∨ w.heap.size ≤ k) 30 3 (.slice (some ⟨w.heap.size, 0, none⟩) (xs.length + 1) c1) (xs.length + 1) (flat (xs.take i ++ y :: xs.drop i)) :=
        Row.ofBlk HG3.out (.inr (Nat.le_refl _)) hc1 hcm1 (by rw [laid_size (by simpa using HFF.out)]; exact HL1.out) (insert_grow HT1.out HE1.out HE2.out (by simp [hs1]; omega) hi)
      exact hR.out _ _ ⟨_, c1, rfl, hR2, (HK12.out.trans (HK3.out.undrew.mono (T := fun k => w.heap.size ≤ k) (fun k _ e => by omega)) (fun k hk h => by omega)).mono (fun k _ e => e.elim)⟩
end Go.Proofs.Ytpaefeknbpfpmaa
