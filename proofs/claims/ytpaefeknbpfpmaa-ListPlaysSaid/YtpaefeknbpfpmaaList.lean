/- Layer 4: lists (list.List): contracts. -/
import Derived.Test.YtpaefeknbpfpmaaVals
namespace Go.Proofs.Ytpaefeknbpfpmaa
open Go.RowKit

/-- A list, at block b, its row told. -/
structure IsListAt (w : World) (F : Nat → Prop) (b : Nat) (v : Value) (xs : List V) : Prop where
  blk : w.heap[b]? = some (.cells #[v] 124 (0, 0))
  here : F b
  row : Row w F 30 3 v xs.length (flat xs)
  inw : In F w
def IsList (w : World) (F : Nat → Prop) (b : Nat) (xs : List V) : Prop := ∃ v, IsListAt w F b v xs
theorem IsList.inw {w : World} {F : Nat → Prop} {b : Nat} {xs : List V} (h : IsList w F b xs) : In F w := by obtain ⟨_, h⟩ := h; exact h.inw
theorem IsList.keeps {w w1 : World} {F S : Nat → Prop} {b : Nat} {xs : List V} (h : IsList w F b xs) (hk : Keeps S w w1) (hn : Apart F S) : IsList w1 F b xs := by
  obtain ⟨v, h⟩ := h
  exact ⟨v, hk.heap h.blk (hn _ h.here), h.here, h.row.keeps hk hn, h.inw.keeps hk⟩
theorem IsList.none {w w1 : World} {F : Nat → Prop} {b : Nat} {xs : List V} (h : IsList w F b xs) (hk : Keeps (fun _ => False) w w1) : IsList w1 F b xs := h.keeps hk (Apart.no _)
theorem IsListAt.put {wr w1 w2 : World} {F : Nat → Prop} {b m n : Nat} {v v1 : Value} {xs ys : List V} {cs : List Value} (h : IsListAt wr F b v xs) (hn : n = ys.length) (hc : cs = flat ys)
    (hR : Row w1 (fun k => F k ∨ wr.heap.size ≤ k) 30 3 v1 n cs) (hk : Keeps (fun k => v.ownBlock = some k) (wr.drewN m) w1) (h2 : SameBut b w1 w2) (hb : w2.heap[b]? = some (.cells #[v1] 124 (0, 0))) :
    ∃ F2, IsListAt w2 F2 b v1 ys ∧ Keeps F wr w2 ∧ Fresh F F2 wr := by
  subst hn hc
  have hne : ∀ k, v1.ownBlock = some k → k ≠ b := hR.ne (hk.heap (k := b) h.blk (fun e => h.row.ne h.blk (by decide) b e rfl)) (by decide)
  obtain ⟨F2, h3, h4, h5, h6, h7⟩ := upd_end h.inw h.here h.row hR hk hne h2
  exact ⟨F2, ⟨hb, h4, h3, h5⟩, h6, h7⟩

theorem slices_Clone (w : World) (A : Option Addr) (c : Nat) (xs : List V) (h : Vals w A xs) (hl : xs.length * 32 ≤ 140737488355328) (hnil : A = none → xs = []) :
    Calls Try.prog 75 #[.slice A xs.length c] w fun e w' => ∃ A' c' F, e = .returned (.slice A' xs.length c') ∧ Row w' F 30 3 (.slice A' xs.length c') xs.length (flat xs) ∧ In F w' ∧ Keeps (fun _ => False) w w' ∧ Fresh (fun _ => False) F w := by
  have H := hidden h
  clear h
  refine post_gen fun R hR => ?_
  cases A with
  | none =>
    obtain rfl := hnil rfl
    have hrun := fun W => Lib.run_eql_slice_nil (P := Try.prog) W 60 30 none 0 c 0 0 Try.underlying60
    go_enter Try.func75, Try.ntmps75
    go_wp2
    exact hR.out _ _ ⟨_, _, fun _ => False, rfl, Row.nil _ _ _ _, fun _ h => h.elim, Keeps.refl _ _, fun _ h => h.elim⟩
  | some a =>
    have hrun := fun W => Lib.run_eql_slice_nil (P := Try.prog) W 60 30 (some a) xs.length c 0 0 Try.underlying60
    go_enter Try.func75, Try.ntmps75
    go_wp2_with (at_builtin; refine app_list rfl (fun k => k = w.heap.size) _ _ _ _ _ _ 3 32 rfl Try.underlying60 info_val rfl (by decide) (.slice (some ⟨w.heap.size, 0, none⟩) 0 0) _ _ rfl (Row.made0 w _ 3) _ rfl _ _ ((H.out.below ((Below.refl _ w).alloc (Nat.le_refl _) _)).src Try.underlying60) (by omega) (by omega) ?_; intro A2 c2 w1 hR2 hK2; have HR2 := hidden hR2; have HK2 := hidden hK2; clear hR2 hK2)
    have g1 := HR2.out
    simp only [Nat.zero_add, List.nil_append] at g1
    have g2 := HK2.out.size
    simp at g2
    have hK : Keeps (fun _ => False) w w1 := ((Keeps.refl (fun _ => False) w).alloc _).trans HK2.out (fun i hi h => by simp [Value.ownBlock] at h; omega)
    refine hR.out _ _ ⟨A2, c2, fun k => w.heap.size ≤ k ∧ k < w1.heap.size, by simp, ⟨g1.1, fun k hk => ⟨?_, g1.lt k hk⟩⟩, fun k hk => hk.2, hK, fun k hk => .inr hk.1⟩
    have := g1.2 k hk
    simp at this
    omega

theorem list_New (w : World) (A : Option Addr) (c : Nat) (xs : List V) (h : Vals w A xs) (hl : xs.length * 32 ≤ 140737488355328) (hnil : A = none → xs = []) :
    Calls Try.prog 28 #[.slice A xs.length c] w fun e w' => ∃ b F, e = .returned (.pointer (some ⟨b, 0, none⟩)) ∧ IsList w' F b xs ∧ Keeps (fun _ => False) w w' ∧ Fresh (fun _ => False) F w := by
  have key := hidden (slices_Clone w A c xs h hl hnil)
  clear h
  refine post_gen fun R hR => ?_
  go_enter Try.func28, Try.ntmps28
  go_wp2_with fail
  refine key.out.mono ?_
  rintro e w1 ⟨A', c', F, rfl, hRow, hin, hK, hF⟩
  have HRow := hidden hRow
  clear hRow key
  go_wp2
  refine hR.out _ _ ⟨w1.heap.size, fun k => F k ∨ k = w1.heap.size, rfl, ⟨_, blk_new _ _, .inr rfl, (HRow.out.alloc _).mono (fun k _ h => .inl h), fun k hk => ?_⟩, hK.alloc _, fun k hk => ?_⟩
  · rcases hk with hk | hk
    · have := hin k hk; simp; omega
    · simp [hk]
  · rcases hk with hk | hk
    · exact hF k hk
    · have := hK.size; exact .inr (by omega)

theorem list_Len (w : World) (F : Nat → Prop) (b : Nat) (xs : List V) (h : IsList w F b xs) :
    Calls Try.prog 82 #[.pointer (some ⟨b, 0, none⟩)] w fun e w' => e = .returned (.int .i64 xs.length) ∧ w = w' := by
  obtain ⟨v, h⟩ := h
  obtain ⟨A, c, rfl⟩ := h.row.form
  have c0 : w.cell? ⟨b, 0, none⟩ = some (.slice A xs.length c) := blk_cell h.blk 0
  clear h
  go_enter Try.func82, Try.ntmps82
  go_wp2
  go_ret
  exact ⟨rfl, rfl⟩

theorem own_none {w : World} {base e size n c : Nat} {A : Option Addr} {xs : List Value} (h : w.ownsRow base e size (.slice A n c) n xs) : A = none → n = 0 := by
  rintro rfl
  rcases h.2 with ⟨_, h⟩ | ⟨g, cap, cur, h1, _⟩
  · exact h
  · simp at h1
theorem list_All (w : World) (F : Nat → Prop) (b : Nat) (xs : List V) (h : IsList w F b xs) (hl : xs.length * 32 ≤ 140737488355328) :
    Calls Try.prog 88 #[.pointer (some ⟨b, 0, none⟩)] w fun e w' => ∃ A' c' F', e = .returned (.slice A' xs.length c') ∧ Row w' F' 30 3 (.slice A' xs.length c') xs.length (flat xs) ∧ In F' w' ∧ Keeps (fun _ => False) w w' ∧ Fresh (fun _ => False) F' w := by
  obtain ⟨v, h⟩ := h
  obtain ⟨A, c, rfl⟩ := h.row.form
  have c0 : w.cell? ⟨b, 0, none⟩ = some (.slice A xs.length c) := blk_cell h.blk 0
  have key := hidden (slices_Clone w A c xs (Vals.own h.row.1) hl (fun e => List.eq_nil_of_length_eq_zero (own_none h.row.1 e)))
  clear h
  refine post_gen fun R hR => ?_
  go_enter Try.func88, Try.ntmps88
  go_wp2_with fail
  refine key.out.mono ?_
  rintro e w1 ⟨A', c', F', rfl, hRow, hin, hK, hF⟩
  have HRow := hidden hRow
  clear hRow key
  go_wp2
  exact hR.out _ _ ⟨A', c', F', rfl, HRow.out, hin, hK, hF⟩

theorem list_place (w : World) (F : Nat → Prop) (b : Nat) (xs : List V) (at' : Int) (h : IsList w F b xs) :
    Calls Try.prog 84 #[.pointer (some ⟨b, 0, none⟩), .int .i64 at'] w fun e w' => e = .returned (.int .i64 (if at' < 0 ∨ (xs.length : Int) ≤ at' then -1 else at')) ∧ w = w' := by
  obtain ⟨v, h⟩ := h
  obtain ⟨A, c, rfl⟩ := h.row.form
  have c0 : w.cell? ⟨b, 0, none⟩ = some (.slice A xs.length c) := blk_cell h.blk 0
  clear h
  refine post_gen fun R hR => ?_
  by_cases h1 : at' < 0
  · go_enter Try.func84, Try.ntmps84
    go_wp2
    exact hR.out _ _ ⟨by rw [if_pos (.inl h1)]; try rfl, rfl⟩
  by_cases h2 : (xs.length : Int) ≤ at'
  · go_enter Try.func84, Try.ntmps84
    go_wp2
    exact hR.out _ _ ⟨by rw [if_pos (.inr h2)]; try rfl, rfl⟩
  · go_enter Try.func84, Try.ntmps84
    go_wp2
    exact hR.out _ _ ⟨by rw [if_neg (by omega)]; try rfl, rfl⟩

theorem list_Get_none (w : World) (F : Nat → Prop) (b : Nat) (xs : List V) (at' : Int) (h : IsList w F b xs) (hat : at' < 0 ∨ (xs.length : Int) ≤ at') :
    Calls Try.prog 80 #[.pointer (some ⟨b, 0, none⟩), .int .i64 at'] w fun e w' => e = .returned (.tuple #[V.val V.null, .int .i64 1]) ∧ Keeps (fun _ => False) w w' := by
  have key := hidden (fun W (h : IsList W F b xs) => list_place W F b xs at' h)
  have H := hidden h
  rw [if_pos hat] at key
  clear h hat
  refine post_gen fun R hR => ?_
  go_enter Try.func80, Try.ntmps80
  go_wp2_with fail
  refine (key.out _ (H.out.none ((Keeps.refl _ _).alloc _))).mono ?_
  rintro e _ ⟨rfl, rfl⟩
  go_wp2_with fail
  refine (value_Null _).mono ?_
  rintro e w1 ⟨rfl, hK⟩
  have HV := hidden ((IsVar.new w V.null).keeps hK (fun h => h))
  obtain ⟨c0, c1, c2, f0, f1, f2⟩ := HV.out.cells
  simp only [V.null] at c0 c1 c2
  unfold V.val V.null
  go_wp2
  obtain ⟨d0, d1, d2, _⟩ := (HV.out.set V.null).cells
  simp only [V.null] at d0 d1 d2
  exact bodyPost_ret (v := .tuple #[V.val V.null, .int .i64 1]) (by simp [results, Try.results80, go_sem, d0, d1, d2, V.val, V.null]) rfl (hR.out _ _ ⟨rfl, (((Keeps.refl _ w).alloc _).trans hK (fun _ _ h => h)).var (fun h => by omega) _ _ _⟩)

theorem list_Get_some (w : World) (F : Nat → Prop) (b : Nat) (xs : List V) (i : Nat) (x : V) (h : IsList w F b xs) (hx : xs[i]? = some x) :
    Calls Try.prog 80 #[.pointer (some ⟨b, 0, none⟩), .int .i64 i] w fun e w' => e = .returned (.tuple #[V.val x, .int .i64 0]) ∧ Keeps (fun _ => False) w w' := by
  have hi := (List.getElem?_eq_some_iff.1 hx).1
  have key := hidden (fun W (h : IsList W F b xs) => list_place W F b xs i h)
  rw [if_neg (by omega)] at key
  have H := hidden h
  obtain ⟨v, hL⟩ := h.none ((Keeps.refl _ w).alloc (.cells #[.int .i64 0, .int .i64 0, .string ⟨#[]⟩] 30))
  obtain ⟨A, c, rfl⟩ := hL.row.form
  obtain ⟨rb, ro, rfl, h0, h1, h2⟩ := Vals.own hL.row.1 i x hx
  have l0 := blk_cell hL.blk 0
  simp only [List.getElem?_toArray, List.getElem?_cons_zero] at l0
  have HV := hidden (IsVar.new w V.null)
  obtain ⟨c0, c1, c2, f0, f1, f2⟩ := HV.out.cells
  simp only [V.null] at c0 c1 c2 f0 f1 f2
  have hneg : ¬ ((i : Int) < 0) := by omega
  have HX := hidden hx
  clear h hx hL
  refine post_gen fun R hR => ?_
  go_enter Try.func80, Try.ntmps80
  go_wp2_with fail
  refine (key.out _ (H.out.none ((Keeps.refl _ _).alloc _))).mono ?_
  rintro e _ ⟨rfl, rfl⟩
  go_wp2
  exact bodyPost_ret (v := .tuple #[V.val x, .int .i64 0]) (by simp [results, Try.results80, go_sem, V.val]) rfl (hR.out _ _ ⟨rfl, (Keeps.refl _ w).alloc _⟩)

end Go.Proofs.Ytpaefeknbpfpmaa
