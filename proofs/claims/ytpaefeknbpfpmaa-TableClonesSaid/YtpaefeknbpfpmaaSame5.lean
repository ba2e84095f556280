/- Layer 5: same: a table has just these pairs. -/
import Derived.Test.YtpaefeknbpfpmaaHead5
namespace Go.Proofs.Ytpaefeknbpfpmaa
open Go.RowKit
set_option maxRecDepth 100000

/-- The cursor behind k keys. -/
def curT (L : List Ent) : Nat → Int
  | 0 => 0
  | k + 1 => (L.getD k (blank 0)).ser
theorem curT_le {L : List Ent} {s : Int} (h : Lok L s) {k : Nat} (hk : k ≤ L.length) {j : Nat} (hj : j < L.length) : (j < k → L[j].ser ≤ curT L k) ∧ (k ≤ j → curT L k < L[j].ser) := by
  cases k with
  | zero => exact ⟨fun h => absurd h (by omega), fun _ => by have := (h.sers L[j] (List.getElem_mem hj)).1; show (0 : Int) < _; omega⟩
  | succ k =>
    have e : (L.getD k (blank 0)) = L[k] := by rw [List.getD_eq_getElem?_getD, List.getElem?_eq_getElem (by omega)]; rfl
    show (j < k + 1 → L[j].ser ≤ (L.getD k (blank 0)).ser) ∧ (k + 1 ≤ j → (L.getD k (blank 0)).ser < L[j].ser)
    rw [e]
    have ha := List.pairwise_iff_getElem.1 h.asc
    refine ⟨fun hjk => ?_, fun hkj => ha k j (by omega) hj (by omega)⟩
    rcases Nat.lt_or_ge j k with h1 | h1
    · exact Int.le_of_lt (ha j k hj (by omega) h1)
    · obtain rfl : j = k := by omega
      exact Int.le_refl _
theorem next_at {L : List Ent} {s : Int} (h : Lok L s) {k : Nat} (hk : k < L.length) : nextT L (curT L k) = some L[k] := by
  rw [nextT, List.find?_eq_some_iff_getElem]
  have h1 := (curT_le h (Nat.le_of_lt hk) hk).2 (Nat.le_refl _)
  refine ⟨by rw [h.live _ (List.getElem_mem hk)]; simpa using h1, k, hk, rfl, fun j hj => ?_⟩
  have := (curT_le h (Nat.le_of_lt hk) (by omega : j < L.length)).1 hj
  simp; exact .inl this
theorem next_end {L : List Ent} {s : Int} (h : Lok L s) : nextT L (curT L L.length) = none := by
  rw [nextT, List.find?_eq_none]
  intro x hx
  obtain ⟨j, hj, rfl⟩ := List.mem_iff_getElem.1 hx
  have := (curT_le h (Nat.le_refl _) hj).1 hj
  simp; intro h2; omega
theorem curT_succ {L : List Ent} {k : Nat} (hk : k < L.length) : curT L (k + 1) = L[k].ser := by
  show (L.getD k (blank 0)).ser = _
  rw [List.getD_eq_getElem?_getD, List.getElem?_eq_getElem hk]; rfl

set_option maxHeartbeats 8000000 in
theorem same5_true (w : World) (F : Nat → Prop) (b : Nat) (L : List Ent) (s : Int) (A : Option Addr) (n c : Nat) (h : IsT w F b L s) (hs : s < 1073741823) (hv : Pairs w A L) (hn : n = L.length) :
    Calls Try.prog 17 #[.pointer (some ⟨b, 0, none⟩), .slice A n c] w fun e w' => e = .returned (.bool true) ∧ Keeps (fun _ => False) w w' := by
  subst hn
  have HT := hidden h
  have HP := hidden hv
  have HL := hidden h.lok
  have hmo := h.lok.most
  have hlk : (L.map Ent.key).length = L.length := List.length_map ..
  have hlv : (L.map Ent.val).length = L.length := List.length_map ..
  have HLK := hidden hlk
  have HLV := hidden hlv
  clear h hv hlk hlv
  refine post_gen fun R hR => ?_
  go_enter Try.func17, Try.ntmps17
  go_wp2_with (first | (go_at_call 61; refine (t_Len HT.out).mono ?_; rintro e _ ⟨rfl, rfl⟩) | (go_at_call 62; refine (t_Keys HT.out hs).mono ?_; rintro e w1 ⟨A1, c1, F1, rfl, h1, h2, h3⟩; have HK1 := hidden h2; have HV1 := hidden (Vals.own h1.1); clear h1 h2 h3) | (go_at_call 68; refine (t_Vals (HT.out.none HK1.out) hs).mono ?_; rintro e w2 ⟨A2, c2, F2, rfl, h1, h2, h3⟩; have HK2 := hidden (HK1.out.trans h2 (fun _ _ h => h)); have HV2 := hidden (Vals.own h1.1); have HV1 := hidden (HV1.out.keeps h2 (fun _ _ _ _ h => h)); clear h1 h2 h3))
  go_loopw [7, 35] (fun cu i wr => ∃ k : Nat, k ≤ L.length ∧ i = .int .i64 k ∧ cu = .int .i64 (curT L k) ∧ Keeps (fun _ => False) w2 wr) (fun _ i _ => L.length - (intOf i).toNat)
  case atStart => exact ⟨0, Nat.zero_le _, rfl, rfl, Keeps.refl _ _⟩
  case round =>
    obtain ⟨k, hk, rfl, rfl, hK⟩ := hrel
    have HKr := hidden hK
    have HKw := hidden (HK2.out.trans hK (fun _ _ h => h))
    clear hK
    by_cases hlt : k < L.length
    · obtain ⟨g, o, rfl, e0, e1, e2, e3, e4, e5⟩ := (HP.out.calm HKw.out) k L[k] (List.getElem?_eq_getElem hlt)
      have hgw := World.block_lt_of_cell? wr _ e0
      obtain ⟨g1, o1, rfl, k0, k1, k2⟩ := (HV1.out.keeps HKr.out (fun _ _ _ _ h => h)) k L[k].key (by rw [List.getElem?_map, List.getElem?_eq_getElem hlt]; rfl)
      obtain ⟨g2, o2, rfl, v0, v1, v2⟩ := (HV2.out.keeps HKr.out (fun _ _ _ _ h => h)) k L[k].val (by rw [List.getElem?_map, List.getElem?_eq_getElem hlt]; rfl)
      have hg1 := World.block_lt_of_cell? wr _ k0
      have hg2 := World.block_lt_of_cell? wr _ v0
      have HNX := hidden (fun (W : World) (hk : Keeps (fun _ => False) w W) => show Calls Try.prog 14 #[.pointer (some ⟨b, 0, none⟩), .int .i64 (curT L k)] W fun e w' => e = .returned (.tuple #[.int .i64 L[k].ser, L[k].key.val, L[k].val.val, .bool true]) ∧ Keeps (fun _ => False) W w' from by
        have := t_Next (HT.out.none hk) (by omega) (curT L k)
        rw [nextAns, next_at HL.out hlt] at this
        exact this)
      have HGE := hidden (fun (W : World) (hk : Keeps (fun _ => False) w W) => t_Get_some (HT.out.none hk) (by omega) (List.getElem_mem hlt))
      have HHA := hidden (fun (W : World) (hk : Keeps (fun _ => False) w W) => t_Has_some (HT.out.none hk) (by omega) (List.getElem_mem hlt))
      have hcu := (curT_le HL.out (Nat.le_of_lt hlt) hlt).2 (Nat.le_refl _)
      have HCS := hidden (curT_succ hlt)
      generalize curT L k = cu at *
      have hcu2 : decide (L[k].ser ≤ cu) = false := by simp; omega
      generalize L[k] = x at *
      obtain ⟨⟨kk, kn, kt⟩, ⟨vk, vn, vt⟩, xs, xg⟩ := x
      simp only [V.val] at e0 e1 e2 e3 e4 e5 k0 k1 k2 v0 v1 v2 hcu hcu2 HNX HGE HHA
      have HPX := hidden (blk_new wr (.cells #[.int .i64 kk, .int .i64 kn, .string kt, .int .i64 vk, .int .i64 vn, .string vt] 39))
      have HPK := hidden (show Keeps (fun _ => False) wr (wr.alloc (.cells #[.int .i64 kk, .int .i64 kn, .string kt, .int .i64 vk, .int .i64 vn, .string vt] 39)) from (Keeps.refl _ _).alloc _)
      go_wp2_with (go_at_call 14; refine (HNX.out _ (HKw.out.alloc _)).mono ?_; rintro e w3 ⟨rfl, h3⟩; have H3 := hidden (HPK.out.trans h3 (fun _ _ h => h)); have k0 := H3.out.cell k0 (fun h => h); have k1 := H3.out.cell k1 (fun h => h); have k2 := H3.out.cell k2 (fun h => h); have v0 := H3.out.cell v0 (fun h => h); have v1 := H3.out.cell v1 (fun h => h); have v2 := H3.out.cell v2 (fun h => h); have hPX := h3.heap HPX.out (fun h => h); have p0 := blk_cell hPX 0; have p1 := blk_cell hPX 1; have p2 := blk_cell hPX 2; have p3 := blk_cell hPX 3; have p4 := blk_cell hPX 4; have p5 := blk_cell hPX 5; simp only [List.getElem?_toArray, List.getElem?_cons_zero, List.getElem?_cons_succ] at p0 p1 p2 p3 p4 p5; have hpx := blk_lt hPX; have hg1 := World.block_lt_of_cell? w3 _ k0; have hg2 := World.block_lt_of_cell? w3 _ v0; clear h3 hPX e0 e1 e2 e3 e4 e5)
      have HV3 := hidden (show w3.heap.size + 1 < ((w3.alloc (.cells #[.int .i64 kk, .int .i64 kn, .string kt] 30)).alloc (.cells #[.int .i64 vk, .int .i64 vn, .string vt] 30)).heap.size from by simp)
      go_quiet (fail)
      have H4 := hidden (show Keeps (fun _ => False) wr (((w3.alloc (.cells #[.int .i64 kk, .int .i64 kn, .string kt] 30)).alloc (.cells #[.int .i64 vk, .int .i64 vn, .string vt] 30)).drewN nq) from (((H3.out.alloc _).alloc _).drewN _))
      go_wp2_with (first | (go_at_call 60; refine (HGE.out _ (HKw.out.trans H4.out (fun _ _ h => h))).mono ?_; rintro e w5 ⟨rfl, h5⟩; have H5 := hidden (H4.out.trans h5 (fun _ _ h => h)); have p0 := h5.cell (p := ⟨wr.heap.size, 0, none⟩) (v := .int .i64 kk) (by go_simp) (fun h => h); have p1 := h5.cell (p := ⟨wr.heap.size, 1, none⟩) (v := .int .i64 kn) (by go_simp) (fun h => h); have p2 := h5.cell (p := ⟨wr.heap.size, 2, none⟩) (v := .string kt) (by go_simp) (fun h => h); have p3 := h5.cell (p := ⟨wr.heap.size, 3, none⟩) (v := .int .i64 vk) (by go_simp) (fun h => h); have p4 := h5.cell (p := ⟨wr.heap.size, 4, none⟩) (v := .int .i64 vn) (by go_simp) (fun h => h); have p5 := h5.cell (p := ⟨wr.heap.size, 5, none⟩) (v := .string vt) (by go_simp) (fun h => h); have hpx := World.block_lt_of_cell? w5 _ p0; clear h5) | (go_at_call 69; refine (HHA.out _ (HKw.out.trans (H5.out.alloc _) (fun _ _ h => h))).mono ?_; rintro e w6 ⟨rfl, h6⟩; have H6 := hidden ((H5.out.alloc _).trans h6 (fun _ _ h => h)); clear h6))
      go_roundw
      case rel => exact ⟨k + 1, hlt, by go_num, by rw [HCS.out], HKr.out.trans H6.out (fun _ _ h => h)⟩
      case measure => simp [intOf]; omega
    · obtain rfl : k = L.length := by omega
      have HNX := hidden (fun (W : World) (hk : Keeps (fun _ => False) w W) => show Calls Try.prog 14 #[.pointer (some ⟨b, 0, none⟩), .int .i64 (curT L L.length)] W fun e w' => e = .returned (.tuple #[.int .i64 (curT L L.length), V.val V.null, V.val V.null, .bool false]) ∧ Keeps (fun _ => False) W w' from by
        have := t_Next (HT.out.none hk) (by omega) (curT L L.length)
        rw [nextAns, next_end HL.out] at this
        exact this)
      unfold V.val V.null at HNX
      generalize curT L L.length = cu at *
      go_wp2_with (go_at_call 14; refine (HNX.out _ HKw.out).mono ?_; rintro e w3 ⟨rfl, h3⟩; have H3 := hidden (HKw.out.trans h3 (fun _ _ h => h)); clear h3)
      exact hR.out _ _ ⟨rfl, (H3.out.alloc _).alloc _⟩
end Go.Proofs.Ytpaefeknbpfpmaa
