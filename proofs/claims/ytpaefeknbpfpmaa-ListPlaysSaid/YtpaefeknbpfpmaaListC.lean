/- Layer 4: lists, what reads them: contracts. -/
import Derived.Test.YtpaefeknbpfpmaaListB
namespace Go.Proofs.Ytpaefeknbpfpmaa
open Go.RowKit
set_option maxRecDepth 100000

/-- The first place of a value; -1: none. -/
def firstAt (xs : List V) (x : V) : Int := if x ∈ xs then (xs.idxOf x : Int) else -1
theorem firstAt_at {xs : List V} {x : V} {k : Nat} (hk : k < xs.length) (h : xs[k] = x) (hn : ∀ j, j < k → xs[j]? ≠ some x) : firstAt xs x = k := by
  have hm : x ∈ xs := h ▸ List.getElem_mem hk
  have hi := List.idxOf_lt_length_of_mem hm
  have h1 : xs[xs.idxOf x] = x := List.getElem_idxOf hi
  have h2 : ¬ xs.idxOf x < k := fun hlt => hn _ hlt (by rw [List.getElem?_eq_getElem hi, h1])
  have h3 : ¬ k < xs.idxOf x := fun hlt => by
    have := List.not_of_lt_findIdx (p := (· == x)) (xs := xs) (i := k) (by simpa [List.idxOf] using hlt)
    simp [h] at this
  rw [firstAt, if_pos hm]
  omega
theorem firstAt_none {xs : List V} {x : V} (hn : ∀ j, j < xs.length → xs[j]? ≠ some x) : firstAt xs x = -1 := by
  rw [firstAt, if_neg]
  intro hm
  obtain ⟨j, hj, h⟩ := List.mem_iff_getElem.1 hm
  exact hn j hj (by rw [List.getElem?_eq_getElem hj, h])

theorem V.ne_cases {a b : V} (h : ¬ b = a) : ¬ a.k = b.k ∨ (a.k = b.k ∧ ¬ a.n = b.n) ∨ (a.k = b.k ∧ a.n = b.n ∧ ¬ a.t.toList = b.t.toList) := by
  by_cases h1 : a.k = b.k
  · by_cases h2 : a.n = b.n
    · refine .inr (.inr ⟨h1, h2, fun h3 => h ?_⟩)
      rw [Lib.toList_data, Lib.toList_data] at h3
      obtain ⟨_, _, ⟨ad⟩⟩ := a
      obtain ⟨_, _, ⟨bd⟩⟩ := b
      simp_all
    · exact .inr (.inl ⟨h1, h2⟩)
  · exact .inl h1
theorem slices_Index (w : World) (A : Option Addr) (c : Nat) (xs : List V) (x : V) (h : Vals w A xs) (hl : xs.length ≤ 4398046511104) :
    Calls Try.prog 95 #[.slice A xs.length c, x.val] w fun e w' => e = .returned (.int .i64 (firstAt xs x)) ∧ Keeps (fun _ => False) w w' := by
  have HV := hidden h
  clear h
  unfold V.val
  refine post_gen fun R hR => ?_
  go_enter Try.func95, Try.ntmps95
  go_wp2
  go_loopw [8] (fun i wr => ∃ k : Nat, k ≤ xs.length ∧ i = .int .i64 k ∧ (∀ j, j < k → xs[j]? ≠ some x) ∧ IsVar wr w.heap.size x ∧ Keeps (fun _ => False) w wr) (fun i _ => xs.length - (intOf i).toNat)
  case atStart => exact ⟨0, Nat.zero_le _, rfl, fun j h => by omega, blk_new _ _, (Keeps.refl _ _).alloc _⟩
  case round =>
    obtain ⟨k, hk, rfl, hno, hvar, hK⟩ := hrel
    have HN := hidden hno
    have HX := hidden hvar
    obtain ⟨v0, v1, v2, _⟩ := hvar.cells
    clear hno hvar
    by_cases hlt : k < xs.length
    · obtain ⟨rb, ro, rfl, h0, h1, h2⟩ := (HV.out.keeps hK (fun _ _ _ _ h => h)) k xs[k] (List.getElem?_eq_getElem hlt)
      by_cases hx : xs[k] = x
      · have HE := hidden hx
        have e0 : (xs[k]).k = x.k := by rw [hx]
        have e1 : (xs[k]).n = x.n := by rw [hx]
        have e2 : (xs[k]).t = x.t := by rw [hx]
        clear hx
        rw [e0] at h0
        rw [e1] at h1
        rw [e2] at h2
        go_wp2
        go_quiet (fail)
        go_wp2
        exact hR.out _ _ ⟨show Ending.returned (.int .i64 _) = _ from ret_int (firstAt_at hlt HE.out HN.out).symm, hK.drewN _⟩
      · have HE := hidden hx
        rcases V.ne_cases hx with e0 | ⟨e0, e1⟩ | ⟨e0, e1, e2⟩
        all_goals
          clear hx
          go_wp2
          go_quiet (fail)
          go_wp2
          go_roundw
          case rel =>
            refine ⟨k + 1, hlt, by go_num, fun j hj => ?_, HX.out, hK.drewN _⟩
            by_cases h : j = k
            · subst h; rw [List.getElem?_eq_getElem hlt]; exact fun e => HE.out (by simpa using e)
            · exact HN.out j (by omega)
          case measure => simp [intOf]; omega
    · obtain rfl : k = xs.length := by omega
      go_wp2
      exact hR.out _ _ ⟨show Ending.returned (.int .i64 _) = _ from ret_int (firstAt_none HN.out).symm, hK⟩

theorem list_Find (w : World) (F : Nat → Prop) (b : Nat) (xs : List V) (x : V) (h : IsList w F b xs) (hl : xs.length ≤ 4398046511104) :
    Calls Try.prog 83 #[.pointer (some ⟨b, 0, none⟩), x.val] w fun e w' => e = .returned (.int .i64 (firstAt xs x)) ∧ Keeps (fun _ => False) w w' := by
  obtain ⟨v, h⟩ := h
  obtain ⟨A, c, rfl⟩ := h.row.form
  have c0 : w.cell? ⟨b, 0, none⟩ = some (.slice A xs.length c) := blk_cell h.blk 0
  have hb := blk_lt h.blk
  have key := hidden (fun W (hK : Keeps (fun _ => False) w W) => slices_Index W A c xs x ((Vals.own h.row.1).keeps hK (fun _ _ _ _ h => h)) hl)
  clear h
  unfold V.val at *
  refine post_gen fun R hR => ?_
  go_enter Try.func83, Try.ntmps83
  go_wp2
  go_region_with (go_at_call 95; refine (key.out _ ((Keeps.refl _ _).alloc _).drew).mono ?_; rintro e w1 ⟨rfl, hK⟩)
  all_goals
    go_wp2
    simp only [Act.put]
    go_ret
    exact hR.out _ _ ⟨rfl, ((Keeps.refl _ w).alloc _).drew.trans hK (fun _ _ h => h)⟩
theorem add_no (g o j : Nat) : (⟨g, o, none⟩ : Addr).add j = ⟨g, o + j, none⟩ := add_at3 g o j
theorem Vals.sub {w : World} {A : Option Addr} {xs : List V} (h : Vals w A xs) (i m : Nat) : Vals w (A.map fun x => x.add (i * 3)) ((xs.drop i).take m) := fun j x hj => by
  have hj' : xs[i + j]? = some x := by
    rw [List.getElem?_take] at hj
    split at hj
    · rwa [List.getElem?_drop] at hj
    · simp at hj
  obtain ⟨b, o, rfl, h0, h1, h2⟩ := h (i + j) x hj'
  refine ⟨b, o + i * 3, by simp [add_at3], ?_, ?_, ?_⟩
  · rw [← h0]; congr 2; omega
  · rw [← h1]; congr 2; omega
  · rw [← h2]; congr 2; omega
/-- A place that is told from the front or the end. -/
def fromEnd (n i : Int) : Int := if i < 0 then i + n else i
theorem list_Slice_bad (w : World) (F : Nat → Prop) (b : Nat) (xs : List V) (f t : Int) (h : IsList w F b xs) (hx : xs.length ≤ 1048576) (hf : -9223372036854775808 ≤ f ∧ f ≤ 9223372036854775807) (ht : -9223372036854775808 ≤ t ∧ t ≤ 9223372036854775807)
    (hbad : fromEnd xs.length f < 0 ∨ fromEnd xs.length t < fromEnd xs.length f ∨ xs.length < fromEnd xs.length t) :
    Calls Try.prog 81 #[.pointer (some ⟨b, 0, none⟩), .int .i64 f, .int .i64 t] w fun e w' => e = .returned (.tuple #[.pointer none, .int .i64 1]) ∧ w = w' := by
  obtain ⟨v, h⟩ := h
  obtain ⟨A, c, rfl⟩ := h.row.form
  have c0 : w.cell? ⟨b, 0, none⟩ = some (.slice A xs.length c) := blk_cell h.blk 0
  clear h
  obtain ⟨hf0, hf1⟩ := hf
  obtain ⟨ht0, ht1⟩ := ht
  unfold fromEnd at hbad
  refine post_gen fun R hR => ?_
  by_cases g1 : f < 0 <;> by_cases g2 : t < 0
  all_goals
    simp only [g1, g2, if_true, if_false] at hbad
    rcases hbad with hbad | hbad | hbad
  all_goals
    try (exfalso; omega; done)
  all_goals
    go_enter Try.func81, Try.ntmps81
    go_wp2
  all_goals exact hR.out _ _ ⟨rfl, rfl⟩
set_option maxHeartbeats 1000000 in
theorem list_Slice_ok (w : World) (F : Nat → Prop) (b : Nat) (xs : List V) (f t : Int) (i j : Nat) (h : IsList w F b xs) (hx : xs.length ≤ 1048576) (hf : -9223372036854775808 ≤ f ∧ f ≤ 9223372036854775807) (ht : -9223372036854775808 ≤ t ∧ t ≤ 9223372036854775807)
    (hi : fromEnd xs.length f = i) (hj : fromEnd xs.length t = j) (hij : i ≤ j) (hjn : j ≤ xs.length) :
    Calls Try.prog 81 #[.pointer (some ⟨b, 0, none⟩), .int .i64 f, .int .i64 t] w fun e w' => ∃ b' F', e = .returned (.tuple #[.pointer (some ⟨b', 0, none⟩), .int .i64 0]) ∧ IsList w' F' b' ((xs.drop i).take (j - i)) ∧ Keeps (fun _ => False) w w' ∧ Fresh (fun _ => False) F' w := by
  obtain ⟨v, h⟩ := h
  obtain ⟨A, c, rfl⟩ := h.row.form
  have hcap := h.row.cap
  have c0 : w.cell? ⟨b, 0, none⟩ = some (.slice A xs.length c) := blk_cell h.blk 0
  have VH := hidden (Vals.own h.row.1)
  have hl : ((xs.drop i).take (j - i)).length = j - i := by simp; omega
  have hnn := own_none h.row.1
  have HN0 := hidden (show A = none → (xs.drop i).take (j - i) = [] from fun e => by rw [List.eq_nil_of_length_eq_zero (hnn e)]; simp)
  have HN1 := hidden (show xs.length ≤ i → (xs.drop i).take (j - i) = [] from fun h => by rw [List.drop_eq_nil_of_le h]; simp)
  clear hnn
  have VN := hidden (show xs.length ≤ i → Vals w A ((xs.drop i).take (j - i)) from fun h => by rw [List.drop_eq_nil_of_le h]; simp; exact Vals.nil _ _)
  have key1 := hidden (list_New w (A.map fun x => x.add (i * 3)) (c - i) _ (Vals.sub VH.out i (j - i)) (by omega) (fun h => HN0.out (by simpa using h)))
  have key2 := hidden (fun h : xs.length ≤ i => list_New w A 0 _ (VN.out h) (by omega) (fun _ => HN1.out h))
  rw [hl] at key1 key2
  clear h
  obtain ⟨hf0, hf1⟩ := hf
  obtain ⟨ht0, ht1⟩ := ht
  unfold fromEnd at hi hj
  refine post_gen fun R hR => ?_
  by_cases g1 : f < 0 <;> by_cases g2 : t < 0
  all_goals
    simp only [g1, g2, if_true, if_false] at hi hj
    go_enter Try.func81, Try.ntmps81
    go_wp2_with fail
  all_goals
    first | refine key1.out.mono ?_ | refine (key2.out (by omega)).mono ?_
    rintro e w1 ⟨b', F', rfl, hL, hK, hF⟩
    have HL := hidden hL
    clear hL
    go_wp2
  all_goals exact hR.out _ _ ⟨b', F', rfl, HL.out, hK, hF⟩
end Go.Proofs.Ytpaefeknbpfpmaa
