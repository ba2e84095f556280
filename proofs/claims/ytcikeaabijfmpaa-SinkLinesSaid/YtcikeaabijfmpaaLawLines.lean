/- The walk of the statement SinkLines. -/
import Derived.Test.YtcikeaabijfmpaaLawParts
namespace Go.Proofs.Ytcikeaabijfmpaa
open Go.RowKit

theorem pieces_line {x : List UInt8} (h : ∀ c ∈ x, c ≠ 10) (r : List UInt8) : pieces (· == 10) (x ++ 10 :: r) = x :: pieces (· == 10) r := by
  induction x with
  | nil => simp [pieces]
  | cons c x ih =>
    have hc := h c (List.mem_cons_self)
    have := ih (fun d hd => h d (List.mem_cons_of_mem _ hd))
    rw [List.cons_append, pieces_cons, if_neg (by simpa using hc), this]
    rfl
theorem pieces_ends (L : List (List UInt8)) (h : ∀ x ∈ L, ∀ c ∈ x, c ≠ 10) : pieces (· == 10) (ends L) = L ++ [[]] := by
  induction L with
  | nil => rfl
  | cons x L ih =>
    have e : ends (x :: L) = x ++ 10 :: ends L := by simp [ends]
    rw [e, pieces_line (h x (List.mem_cons_self)), ih (fun y hy => h y (List.mem_cons_of_mem _ hy))]
    rfl
theorem lines_of_ends (L : List (List UInt8)) (h : ∀ x ∈ L, ∀ c ∈ x, c ≠ 10) : lines (ends L) = L := by
  have hp := pieces_ends L h
  have e1 : (pieces (· == 10) (ends L)).getLast (pieces_ne _ _) = [] := by
    have : ∀ (l : List (List UInt8)) (hl : l ≠ []), l = L ++ [[]] → l.getLast hl = [] := by
      rintro l hl rfl
      simp
    exact this _ _ hp
  unfold lines
  rw [if_pos e1, hp]
  simp
def rawL (ls : List ByteArray) : List (List UInt8) := ls.map fun s => s.data.toList
theorem rawL_mk (ls : List ByteArray) : (rawL ls).map mkS = ls := by simp [rawL, Function.comp_def, mkS_data]
def plainB (ls : List ByteArray) : Bool := ls.all fun s => !s.data.toList.contains 10

theorem strs_equal (w : World) (A1 A2 : Option Addr) (c d n : Nat) (xs : List ByteArray) (hn : n = xs.length) (h1 : Strs w A1 xs) (h2 : Strs w A2 xs) (hl : xs.length ≤ 9223372036854775807) :
    Calls Try.prog 35 #[.slice A1 n c, .slice A2 xs.length d] w fun e w' => e = .returned (.bool true) ∧ ∃ q, w' = w.drewN q := by
  subst hn
  cases hx : xs with
  | nil => exact (Try.slices_Equal_string_empty A1 A2 c 0 d w (by omega)).mono (by rintro e w' ⟨rfl, rfl⟩; exact ⟨rfl, 0, rfl⟩)
  | cons s r =>
    rw [← hx]
    have h0 : 0 < xs.length := by simp [hx]
    obtain ⟨b1, o1, rfl, _⟩ := h1 0 _ (List.getElem?_eq_getElem h0)
    obtain ⟨b2, o2, rfl, _⟩ := h2 0 _ (List.getElem?_eq_getElem h0)
    have cells : ∀ b o, Strs w (some ⟨b, o, none⟩) xs → ∀ j, j < xs.length → w.cell? ⟨b, o + j, none⟩ = some (.string (xs.getD j ByteArray.empty)) := by
      intro b o h j hj
      obtain ⟨b', o', he, hc⟩ := h j _ (List.getElem?_eq_getElem hj)
      simp at he
      obtain ⟨rfl, rfl⟩ := he
      rw [hc]
      simp [List.getD_eq_getElem?_getD, hj]
    exact (Try.slices_Equal_string b1 o1 xs.length c b2 o2 xs.length d xs xs w (Nat.le_refl _) (Nat.le_refl _) hl hl (cells _ _ h1) (cells _ _ h2)).mono (by
      rintro e w' ⟨rfl, q, rfl⟩
      exact ⟨ret_bool (by simp), q, rfl⟩)

/-- The loop at its head. -/
structure LnAt (w : World) (sb : Nat) (ls : List ByteArray) (k : Nat) (wr : World) : Prop where
  ex : ∃ F, IsSink wr F sb (ends (rawL (ls.take k))) (1048576 : Nat) false ∧ ∀ j, F j → w.heap.size ≤ j
  few : (ends (rawL (ls.take k))).length ≤ 201 * k
  keeps : Keeps (fun j => w.heap.size ≤ j) w wr
theorem rawL_take {ls : List ByteArray} {k : Nat} (h : k < ls.length) : ends (rawL (ls.take (k + 1))) = ends (rawL (ls.take k)) ++ (ls[k].data.toList ++ [10]) := by
  rw [List.take_succ_eq_append_getElem h]
  simp only [rawL, ends, List.map_append, List.flatMap_append]
  simp
theorem prt_line {xs : List UInt8} {s : ByteArray} (h : xs.length + s.size + 1 ≤ 1048576) : prt 1048576 ([s] ++ [⟨#[10]⟩]) xs false = (xs ++ (s.data.toList ++ [10]), false) := by
  have e : cat ([s] ++ [⟨#[10]⟩]) = s.data.toList ++ [10] := by simp [cat]
  rw [prt_spec _ (by omega), e, if_pos]
  simp
  have : s.data.size = s.size := rfl
  omega

set_option maxHeartbeats 1000000 in
theorem sinkLines_walk (w : World) (A : Option Addr) (c : Nat) (ls : List ByteArray) (hs : Strs w A ls) (hl : ls.length * 16 ≤ 140737488355328) :
    Calls Try.prog 7 #[.slice A ls.length c] w fun e w' => e = .returned (.bool true) ∧ Below w.heap.size w w' := by
  have HS := hidden hs
  clear hs
  refine post_gen fun R hR => ?_
  by_cases h1 : 60 < ls.length
  · go_enter Try.func7, Try.ntmps7
    go_wp2_with (go_at_call 12; refine (prints_true _).mono ?_; rintro e w1 ⟨rfl, hB⟩; have HB := hidden hB; clear hB)
    exact hR.out _ _ ⟨rfl, HB.out⟩
  go_enter Try.func7, Try.ntmps7
  go_wp2_with (first | (go_at_call 12; refine (prints_true _).mono ?_; rintro e w1 ⟨rfl, hB⟩; have HB := hidden hB; clear hB) | (go_at_call 14; refine (sink_New 1048576 _).mono ?_; rintro e w2 ⟨sb, SF, rfl, hS, hK, hF⟩; rw [show max (1048576 : Int) 0 = ((1048576 : Nat) : Int) from rfl] at hS; have HP := hidden (show LnAt w sb ls 0 w2 from ⟨⟨SF, hS, hF.ge (fun _ h => h.elim) HB.out.size⟩, by simp [rawL, ends], (below_keeps HB.out).step (fun _ h => h.elim) hK⟩); clear hS hK hF))
  clear HB
  go_loopw [4, 15] (fun p i wr => ∃ k : Nat, k ≤ ls.length ∧ i = .int .i64 k ∧ p = .bool (plainB (ls.take k)) ∧ LnAt w sb ls k wr) (fun _ i _ => ls.length - (intOf i).toNat)
  case atStart => exact ⟨0, Nat.zero_le _, rfl, rfl, HP.out⟩
  case round =>
    clear HP
    obtain ⟨k, hk, rfl, rfl, hP⟩ := hrel
    have HP := hidden hP
    have hfew := hP.few
    have HX := hidden hP.ex
    have hbl := hidden (hP.keeps.below (Nat.le_refl _) (fun _ h => h))
    clear hP
    generalize hpl : plainB (ls.take k) = pl
    have HPL := hidden hpl
    clear hpl
    by_cases hlt : k < ls.length
    · obtain ⟨ab, ao, rfl, hc⟩ := (HS.out.below hbl.out) k _ (List.getElem?_eq_getElem hlt)
      have HT := hidden (List.take_succ_eq_append_getElem hlt)
      have HR := hidden (rawL_take hlt)
      by_cases h200 : 200 < ls[k].size
      · go_wp2
        exact hR.out _ _ ⟨rfl, hbl.out⟩
      · obtain ⟨F, hF1, hF2⟩ := HX.out
        have HF1 := hidden hF1
        have HF2 := hidden hF2
        clear hF1 hF2 HX
        have HL := hidden (prt_line (xs := ends (rawL (ls.take k))) (s := ls[k]) (by omega))
        generalize hq : ls[k].data.toList.contains 10 = q
        have HQ := hidden hq
        clear hq
        have hPL' : Hid (plainB (ls.take (k + 1)) = (pl && !q)) := hidden (by rw [HT.out, plainB, List.all_append]; rw [show (ls.take k).all _ = pl from HPL.out]; simp only [List.all_cons, List.all_nil, Bool.and_true]; rw [HQ.out])
        cases pl <;> cases q
        all_goals
          go_wp2_with (first | (go_at_call 24; refine (contains_one _ _).mono ?_; rintro e _ ⟨rfl, rfl⟩; rw [HQ.out]) | (go_at_call 34; refine (sink_Line _ F sb _ 1048576 false (some ⟨wr.heap.size, 0, none⟩) 1 [ls[k]] (HF1.out.alloc _) (by omega) (by omega) (by omega) (Strs.lit wr _ _) (lit_apart HF1.out.inw) (by simp)).mono ?_; rintro e w3 ⟨F3, rfl, hS3, hK3, hF3⟩; simp only [HL.out, codeIf_false] at *; have HS3 := hidden hS3; have HK3 := hidden hK3; have HF3 := hidden hF3; clear hS3 hK3 hF3))
          go_roundw
          case rel =>
            refine ⟨k + 1, hlt, by go_num, by rw [hPL'.out]; rfl, ⟨⟨F3, by rw [HR.out]; exact HS3.out, HF3.out.ge HF2.out (by have := hbl.out.size; simp; omega)⟩, ?_, (HP.out.keeps.alloc _).step HF2.out HK3.out⟩⟩
            have e : ls[k].data.size = ls[k].size := rfl
            rw [HR.out]; simp; omega
          case measure => simp [intOf]; omega
    · obtain rfl : k = ls.length := by omega
      have htk := List.take_length (l := ls)
      cases pl with
      | false =>
        go_wp2
        exact hR.out _ _ ⟨rfl, hbl.out⟩
      | true =>
        obtain ⟨F, hF1, hF2⟩ := HX.out
        rw [htk] at hF1 hfew
        have HF1 := hidden hF1
        have hpl : plainB ls = true := by have := HPL.out; rwa [htk] at this
        have HLN := hidden (show lines (mkS (ends (rawL ls))).data.toList = rawL ls by
          rw [show (mkS (ends (rawL ls))).data.toList = ends (rawL ls) by simp [mkS]]
          refine lines_of_ends _ (fun x hx c hc => ?_)
          simp only [rawL, List.mem_map] at hx
          obtain ⟨s, hs, rfl⟩ := hx
          have := List.all_eq_true.1 hpl s hs
          rintro rfl
          simp at this
          exact this (by simpa using hc))
        have HSZ := hidden (mkS_size (ends (rawL ls)))
        clear hF1 hF2 hpl HX htk
        go_wp2_with (first | (go_at_call 16; refine (sink_Text _ F sb _ _ _ HF1.out).mono ?_; rintro e _ ⟨rfl, rfl⟩) | (go_at_call 23; refine (sink_Lines _ _ (by have := HSZ.out; omega)).mono ?_; rintro e w3 ⟨A3, c3, F3, rfl, hr3, hin3, hK3, hF3⟩; rw [HLN.out] at *; have HR3 := hidden hr3; have HK3 := hidden hK3; clear hr3 hin3 hK3 hF3))
        refine (strs_equal _ A3 A c3 c (rawL ls).length ls (by simp [rawL]) (by have := HR3.out.1; rw [rawL_mk] at this; exact Strs.own this) (HS.out.below ((HP.out.keeps.step (fun _ h => h.elim) HK3.out).below (Nat.le_refl _) (fun _ h => h))) (by omega)).mono ?_
        rintro e w4 ⟨rfl, q, rfl⟩
        go_wp2
        exact hR.out _ _ ⟨rfl, ((HP.out.keeps.step (fun _ h => h.elim) HK3.out).drewN q).below (Nat.le_refl _) (fun _ h => h)⟩
end Go.Proofs.Ytcikeaabijfmpaa
