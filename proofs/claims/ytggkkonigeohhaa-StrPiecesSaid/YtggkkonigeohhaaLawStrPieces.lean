/- The walk of the statement StrPieces. -/
import Derived.Test.YtggkkonigeohhaaStrT
import Derived.Deep.CutBlock
import Derived.Deep.DeepCutAuto
namespace Go.Proofs.Ytggkkonigeohhaa
open Go.RowKit
set_option maxRecDepth 100000

/-- These pieces, one byte of the kind p between each two, are the text. -/
def Joined (p : UInt8 → Bool) : List (List UInt8) → List UInt8 → Prop
  | [], _ => False
  | [x], l => l = x ∧ ∀ c ∈ x, p c = false
  | x :: y :: r, l => (∀ c ∈ x, p c = false) ∧ ∃ c rest, l = x ++ c :: rest ∧ Joined p (y :: r) rest
theorem joined_pieces (p : UInt8 → Bool) (l : List UInt8) : Joined p (pieces p l) l := by
  induction l with
  | nil => simp [pieces, Joined]
  | cons c l ih =>
    rw [pieces_cons]
    have hne := pieces_ne p l
    generalize pieces p l = q at *
    cases q with
    | nil => exact absurd rfl hne
    | cons x r =>
      by_cases hc : p c = true
      · rw [if_pos hc]
        exact ⟨by simp, c, l, rfl, ih⟩
      · rw [if_neg hc]
        simp only [Bool.not_eq_true] at hc
        cases r with
        | nil =>
          obtain ⟨h1, h2⟩ := ih
          refine ⟨by rw [h1]; rfl, ?_⟩
          intro d hd
          simp at hd
          rcases hd with rfl | hd
          · exact hc
          · exact h2 d hd
        | cons y r =>
          obtain ⟨h1, d, rest, h2, h3⟩ := ih
          refine ⟨?_, d, rest, by rw [h2]; rfl, h3⟩
          intro e he
          simp at he
          rcases he with rfl | he
          · exact hc
          · exact h1 e he
theorem joined_front {p : UInt8 → Bool} {x : List UInt8} {r : List (List UInt8)} {l : List UInt8} (h : Joined p (x :: r) l) : l.take x.length = x ∧ x.length ≤ l.length ∧ ∀ c ∈ x, p c = false := by
  cases r with
  | nil => obtain ⟨rfl, h2⟩ := h; exact ⟨by simp, Nat.le_refl _, h2⟩
  | cons y r => obtain ⟨h1, c, rest, rfl, _⟩ := h; exact ⟨by simp, by simp, h1⟩
theorem joined_last {p : UInt8 → Bool} {x : List UInt8} {l : List UInt8} (h : Joined p [x] l) : l.length = x.length := by rw [h.1]
theorem joined_next {p : UInt8 → Bool} {x y : List UInt8} {r : List (List UInt8)} {l : List UInt8} (h : Joined p (x :: y :: r) l) : x.length + 1 ≤ l.length ∧ Joined p (y :: r) (l.drop (x.length + 1)) := by
  obtain ⟨h1, c, rest, rfl, h3⟩ := h
  refine ⟨by simp, ?_⟩
  have : (x ++ c :: rest).drop (x.length + 1) = rest := by simp [List.drop_append]
  rwa [this]
theorem joined_sum {p : UInt8 → Bool} : ∀ (q : List (List UInt8)) (l : List UInt8), Joined p q l → (q.map List.length).sum + (q.length - 1) = l.length := by
  intro q
  induction q with
  | nil => intro l h; exact h.elim
  | cons x r ih =>
    intro l h
    cases r with
    | nil => rw [joined_last h]; simp
    | cons y r =>
      obtain ⟨h1, h2⟩ := joined_next h
      have := ih _ h2
      simp at this ⊢
      omega
theorem mem_le_sum {n : Nat} {l : List Nat} (h : n ∈ l) : n ≤ l.sum := by
  induction l with
  | nil => simp at h
  | cons a l ih =>
    simp at h
    rcases h with rfl | h
    · simp
    · have := ih h; simp; omega
/-- At the k-th piece, so far on. -/
structure PcAt (p : UInt8 → Bool) (q : List (List UInt8)) (l : List UInt8) (k at' : Nat) : Prop where
  le : at' ≤ l.length
  here : k < q.length → at' + (if k = 0 then 0 else 1) ≤ l.length ∧ Joined p (q.drop k) (l.drop (at' + if k = 0 then 0 else 1))
  done : k = q.length → at' = l.length
theorem PcAt.start {p : UInt8 → Bool} {l : List UInt8} : PcAt p (pieces p l) l 0 0 :=
  ⟨Nat.zero_le _, fun _ => ⟨Nat.zero_le _, joined_pieces p l⟩, fun h => absurd (List.eq_nil_of_length_eq_zero h.symm) (pieces_ne p l)⟩
theorem PcAt.next {p : UInt8 → Bool} {q : List (List UInt8)} {l : List UInt8} {k at' : Nat} (h : PcAt p q l k at') (hk : k < q.length) : PcAt p q l (k + 1) (at' + (if k = 0 then 0 else 1) + q[k].length) := by
  obtain ⟨h1, h2⟩ := h.here hk
  rw [List.drop_eq_getElem_cons hk] at h2
  generalize at' + (if k = 0 then 0 else 1) = a at *
  obtain ⟨h3, h4, h5⟩ := joined_front h2
  rw [List.length_drop] at h4
  refine ⟨by omega, fun hk1 => ?_, fun hk1 => ?_⟩
  · rw [List.drop_eq_getElem_cons hk1] at h2
    obtain ⟨h6, h7⟩ := joined_next h2
    rw [List.length_drop] at h6
    rw [List.drop_drop, ← List.drop_eq_getElem_cons hk1] at h7
    refine ⟨by simp; omega, ?_⟩
    simpa [Nat.add_assoc] using h7
  · rw [List.drop_eq_nil_of_le (by omega)] at h2
    have := joined_last h2
    rw [List.length_drop] at this
    omega
set_option maxHeartbeats 1000000 in
theorem strPieces_walk (w : World) (s bb : ByteArray) (m : Int) (hm : w.cell? ⟨0, 0, none⟩ = some (.int .i64 m)) :
    Calls Try.prog 8 #[.string s, .string bb] w fun e w' => e = .returned (.bool true) ∧ Below w.heap.size w w' := by
  have HT := hidden (texts_true w m hm)
  have LA := hidden (list_len s)
  clear hm
  refine post_gen fun R hR => ?_
  by_cases hbig : 500 < s.size
  · go_enter Try.func8, Try.ntmps8
    go_wp2_with fail
    refine HT.out.mono ?_
    rintro e w1 ⟨rfl, hK⟩
    go_wp2_with fail
    exact hR.out _ _ ⟨rfl, hK.toNew (fun _ h => h.elim)⟩
  by_cases hbig2 : 50 < bb.size
  · go_enter Try.func8, Try.ntmps8
    go_wp2_with fail
    refine HT.out.mono ?_
    rintro e w1 ⟨rfl, hK⟩
    go_wp2_with fail
    exact hR.out _ _ ⟨rfl, hK.toNew (fun _ h => h.elim)⟩
  have k1 := hidden (fun W => str_Split W s bb (by omega))
  go_enter Try.func8, Try.ntmps8
  go_wp2_with fail
  refine HT.out.mono ?_
  rintro e w1 ⟨rfl, hK⟩
  have HK := hidden hK
  clear hK
  go_wp2_with fail
  refine (k1.out _).mono ?_
  rintro e w2 ⟨A, c, F, rfl, hRow, hin, hK2, hF⟩
  have HK2 := hidden (HK.out.trans hK2 (fun _ _ h => h))
  have hcap := hRow.cap
  have HS := hidden (Strs.own hRow.1)
  clear hK2 HK hRow hin hF
  have hne := pieces_ne (fun b => bb.data.toList.contains b) s.data.toList
  have hpl := pieces_length (fun b => bb.data.toList.contains b) s.data.toList
  rw [LA.out] at hpl
  have HP := hidden (show pieces (fun b => bb.data.toList.contains b) s.data.toList = pieces (fun b => bb.data.toList.contains b) s.data.toList from rfl)
  have hp0 : 0 < (pieces (fun b => bb.data.toList.contains b) s.data.toList).length := List.length_pos_iff.2 hne
  clear hne
  generalize hq : pieces (fun b => bb.data.toList.contains b) s.data.toList = q at *
  have HQ0 := hidden (show PcAt (fun b => bb.data.toList.contains b) q s.data.toList 0 0 by rw [← hq]; exact PcAt.start)
  have HSUM := hidden (show (q.map List.length).sum + (q.length - 1) = s.size by rw [← hq, joined_sum _ _ (joined_pieces _ _), LA.out])
  have hq0 : ((q.length : Int) == 0) = false := by rw [beq_eq_false_iff_ne]; omega
  clear hq HP
  go_wp2_with fail
  go_loopw [6, 31] (fun a n wr => ∃ k x : Nat, k ≤ q.length ∧ n = .int .i64 k ∧ a = .int .i64 x ∧ x ≤ s.size ∧ PcAt (fun b => bb.data.toList.contains b) q s.data.toList k x ∧ Drew w2 wr) (fun _ n _ => q.length - (intOf n).toNat)
  case atStart => exact ⟨0, 0, Nat.zero_le _, rfl, rfl, Nat.zero_le _, HQ0.out, Drew.refl _⟩
  case round =>
    clear HQ0
    obtain ⟨k, x, hk, rfl, rfl, hx, hP, hD⟩ := hrel
    have HP := hidden hP
    clear hP
    by_cases hlt : k < q.length
    · have hSk := (HS.out k (mkS q[k]) (by rw [List.getElem?_map, List.getElem?_eq_getElem hlt]; rfl))
      obtain ⟨ab, ao, rfl, hc0⟩ := hSk
      have hc := (hD.keeps (fun _ => False)).cell hc0 (fun h => h)
      clear hc0
      obtain ⟨h1, h2⟩ := HP.out.here hlt
      rw [List.drop_eq_getElem_cons hlt] at h2
      obtain ⟨h3, h4, h5⟩ := joined_front h2
      rw [List.length_drop, LA.out] at h4
      rw [LA.out] at h1
      clear h2
      have HN := hidden (HP.out.next hlt)
      have hz := mkS_size q[k]
      by_cases hk0 : k = 0
      · simp only [if_pos hk0, Nat.add_zero] at h1 h3 h4 HN
        have i1 : ¬ (0 : Int) < k := by omega
        have hex : s.extract x (x + q[k].length) = mkS q[k] := by
          rw [← mkS_extract, List.drop_take, show x + q[k].length - x = q[k].length by omega, h3]
        have hex2 : ((s.extract x (x + (mkS q[k]).size)).toList == (mkS q[k]).toList) = true := by rw [hz, hex]; simp
        have h5' : ∀ (i : Nat) (hi : i < (mkS q[k]).size) (j : Nat) (hj : j < bb.size), (((mkS q[k])[i]'hi).toNat : Int) = ((bb[j]'hj).toNat : Int) → False := fun i hi j hj he => by
          have hi' : i < q[k].length := by rw [← hz]; exact hi
          have e1 : (mkS q[k])[i]'hi = q[k][i]'hi' := by rw [← at_list (mkS q[k]) hi]; rfl
          have h6 := h5 q[k][i] (List.getElem_mem _)
          rw [List.contains_eq_mem, decide_eq_false_iff_not] at h6
          refine h6 ?_
          rw [e1] at he
          have e2 : q[k][i]'hi' = bb[j]'hj := UInt8.toNat_inj.1 (by omega)
          rw [e2, ← at_list bb hj]
          exact List.getElem_mem _
        have H5 := hidden h5'
        have hxs : x + q[k].length ≤ s.size := by omega
        have HNN := hidden (show PcAt (fun b => bb.data.toList.contains b) q s.data.toList (k + 1) (x + (mkS q[k]).size) by rw [hz]; exact HN.out)
        rw [← hz] at hxs
        clear hex h5 h3 hk0 h5' hz HN h1 h4
        generalize mkS q[k] = pp at *
        go_wp2_with fail
        go_loopw [60] (fun n wr => ∃ i : Nat, i ≤ pp.size ∧ n = .int .i64 i ∧ Drew w2 wr) (fun n _ => pp.size - (intOf n).toNat)
        case atStart => exact ⟨0, Nat.zero_le _, rfl, hD⟩
        case round =>
          clear hD hc
          obtain ⟨i, hi, rfl, hD⟩ := hrel
          by_cases hi2 : i < pp.size
          · go_wp2_with fail
            go_loopw [65] (fun n wr => ∃ j : Nat, j ≤ bb.size ∧ n = .int .i64 j ∧ Drew w2 wr) (fun n _ => bb.size - (intOf n).toNat)
            case atStart => exact ⟨0, Nat.zero_le _, rfl, hD⟩
            case round =>
              clear hD
              obtain ⟨j, hj, rfl, hD⟩ := hrel
              by_cases hj2 : j < bb.size
              · have g1 : (((pp[i]'hi2).toNat : Int) == ((bb[j]'hj2).toNat : Int)) = false := by
                  rw [beq_eq_false_iff_ne]; exact fun h => H5.out i hi2 j hj2 h
                have p1 : (i : Int) < pp.size := by omega
                have p2 : (j : Int) < bb.size := by omega
                go_wp2_with fail
                go_quiet (fail)
                go_wp2_with fail
                go_roundw
                case rel => exact ⟨j + 1, hj2, by go_num, hD.drewN _⟩
                case measure => simp [intOf]; omega
              · obtain rfl : j = bb.size := by omega
                go_wp2_with fail
                go_roundw
                case rel => exact ⟨i + 1, hi2, by go_num, hD⟩
                case measure => simp [intOf]; omega
          · obtain rfl : i = pp.size := by omega
            go_wp2_with fail
            go_roundw
            case rel => exact ⟨k + 1, _, hlt, by go_num, by go_num, hxs, HNN.out, hD⟩
            case measure => simp [intOf]; omega
      · simp only [if_neg hk0] at h1 h3 h4 HN
        have i1 : (0 : Int) < k := by omega
        have hex : s.extract (x + 1) (x + 1 + q[k].length) = mkS q[k] := by
          rw [← mkS_extract, List.drop_take, show x + 1 + q[k].length - (x + 1) = q[k].length by omega, h3]
        have hex2 : ((s.extract (x + 1) (x + 1 + (mkS q[k]).size)).toList == (mkS q[k]).toList) = true := by rw [hz, hex]; simp
        have h5' : ∀ (i : Nat) (hi : i < (mkS q[k]).size) (j : Nat) (hj : j < bb.size), (((mkS q[k])[i]'hi).toNat : Int) = ((bb[j]'hj).toNat : Int) → False := fun i hi j hj he => by
          have hi' : i < q[k].length := by rw [← hz]; exact hi
          have e1 : (mkS q[k])[i]'hi = q[k][i]'hi' := by rw [← at_list (mkS q[k]) hi]; rfl
          have h6 := h5 q[k][i] (List.getElem_mem _)
          rw [List.contains_eq_mem, decide_eq_false_iff_not] at h6
          refine h6 ?_
          rw [e1] at he
          have e2 : q[k][i]'hi' = bb[j]'hj := UInt8.toNat_inj.1 (by omega)
          rw [e2, ← at_list bb hj]
          exact List.getElem_mem _
        have H5 := hidden h5'
        have hxs : x + 1 + q[k].length ≤ s.size := by omega
        have HNN := hidden (show PcAt (fun b => bb.data.toList.contains b) q s.data.toList (k + 1) (x + 1 + (mkS q[k]).size) by rw [hz]; exact HN.out)
        rw [← hz] at hxs
        clear hex h5 h3 hk0 h5' hz HN h1 h4
        generalize mkS q[k] = pp at *
        go_wp2_with fail
        go_loopw [60] (fun n wr => ∃ i : Nat, i ≤ pp.size ∧ n = .int .i64 i ∧ Drew w2 wr) (fun n _ => pp.size - (intOf n).toNat)
        case atStart => exact ⟨0, Nat.zero_le _, rfl, hD⟩
        case round =>
          clear hD hc
          obtain ⟨i, hi, rfl, hD⟩ := hrel
          by_cases hi2 : i < pp.size
          · go_wp2_with fail
            go_loopw [65] (fun n wr => ∃ j : Nat, j ≤ bb.size ∧ n = .int .i64 j ∧ Drew w2 wr) (fun n _ => bb.size - (intOf n).toNat)
            case atStart => exact ⟨0, Nat.zero_le _, rfl, hD⟩
            case round =>
              clear hD
              obtain ⟨j, hj, rfl, hD⟩ := hrel
              by_cases hj2 : j < bb.size
              · have g1 : (((pp[i]'hi2).toNat : Int) == ((bb[j]'hj2).toNat : Int)) = false := by
                  rw [beq_eq_false_iff_ne]; exact fun h => H5.out i hi2 j hj2 h
                have p1 : (i : Int) < pp.size := by omega
                have p2 : (j : Int) < bb.size := by omega
                go_wp2_with fail
                go_quiet (fail)
                go_wp2_with fail
                go_roundw
                case rel => exact ⟨j + 1, hj2, by go_num, hD.drewN _⟩
                case measure => simp [intOf]; omega
              · obtain rfl : j = bb.size := by omega
                go_wp2_with fail
                go_roundw
                case rel => exact ⟨i + 1, hi2, by go_num, hD⟩
                case measure => simp [intOf]; omega
          · obtain rfl : i = pp.size := by omega
            go_wp2_with fail
            go_roundw
            case rel => exact ⟨k + 1, _, hlt, by go_num, by go_num, hxs, HNN.out, hD⟩
            case measure => simp [intOf]; omega
    · obtain rfl : k = q.length := by omega
      have hx2 := HP.out.done rfl
      rw [LA.out] at hx2
      subst hx2
      have hjn : jn ⟨#[45]⟩ (q.map mkS) = s.size := by
        have e : (q.map mkS).map ByteArray.size = q.map List.length := by
          rw [List.map_map]
          exact List.map_congr_left (fun x _ => mkS_size x)
        rw [jn, e, List.length_map, show (⟨#[45]⟩ : ByteArray).size = 1 from rfl, Nat.mul_one]
        exact HSUM.out
      have hsz : ∀ i (h : i < (q.map mkS).length), (q.map mkS)[i].size ≤ 140737488351232 := fun i h => by
        have h1 : i < q.length := by simpa using h
        have h2 := HSUM.out
        have h3 : q[i].length ≤ (q.map List.length).sum := mem_le_sum (List.mem_map.2 ⟨q[i], List.getElem_mem _, rfl⟩)
        rw [List.getElem_map, mkS_size]
        omega
      have hj := str_Join wr A c (q.map mkS) ⟨#[45]⟩ (HS.out.keeps (hD.keeps (fun _ => False)) (fun _ _ _ h => h)) (by rw [List.length_map]; exact hcap) (by rw [List.length_map]; omega) hsz (by decide)
      rw [hjn, if_neg (by omega), List.length_map] at hj
      have hjl : (mkS (joinB ⟨#[45]⟩ (q.map mkS))).size = s.size := by rw [mkS_size, joinB_length, hjn]
      generalize mkS (joinB ⟨#[45]⟩ (q.map mkS)) = jj at *
      have HJ := hidden hj
      have i9 : ((jj.size : Int) == s.size) = true := by rw [hjl]; simp
      clear hj hjl hjn hsz
      go_wp2_with fail
      refine HJ.out.mono ?_
      rintro e9 w9 ⟨rfl, hK9⟩
      have HK9 := hidden ((HK2.out.trans (hD.keeps (fun _ => False)) (fun _ _ h => h)).trans hK9 (fun _ _ h => h))
      clear hK9
      go_wp2_with fail
      exact hR.out _ _ ⟨rfl, HK9.out.toNew (fun _ h => h.elim)⟩
end Go.Proofs.Ytggkkonigeohhaa
