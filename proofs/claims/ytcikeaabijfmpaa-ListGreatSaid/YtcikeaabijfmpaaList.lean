/- Layer 4: lists (list.List): contracts. -/
import Derived.Test.YtcikeaabijfmpaaVal
namespace Go.Proofs.Ytcikeaabijfmpaa
open Go.RowKit

/-- Values that stand in a row that is read. -/
def Vals (w : World) (A : Option Addr) (xs : List V) : Prop := ∀ i x, xs[i]? = some x → ∃ b o, A = some ⟨b, o, none⟩ ∧ w.cell? ⟨b, o + i * 3, none⟩ = some (.int .i64 x.k) ∧ w.cell? ⟨b, o + i * 3 + 1, none⟩ = some (.int .i64 x.n) ∧ w.cell? ⟨b, o + i * 3 + 2, none⟩ = some (.string x.t)
theorem Vals.nil (w : World) (A : Option Addr) : Vals w A [] := fun i x h => by simp at h
theorem Vals.keeps {w w1 : World} {S : Nat → Prop} {A : Option Addr} {xs : List V} (h : Vals w A xs) (hk : Keeps S w w1) (hn : 0 < xs.length → ∀ b o, A = some ⟨b, o, none⟩ → ¬ S b) : Vals w1 A xs := fun i x hi => by
  obtain ⟨b, o, rfl, h1, h2, h3⟩ := h i x hi
  have hb := hn (by have := (List.getElem?_eq_some_iff.1 hi).1; omega) b o rfl
  exact ⟨b, o, rfl, hk.cell h1 hb, hk.cell h2 hb, hk.cell h3 hb⟩
theorem Vals.lt {w : World} {A : Option Addr} {xs : List V} (h : Vals w A xs) : 0 < xs.length → ∀ b o, A = some ⟨b, o, none⟩ → b < w.heap.size := by
  intro h0 b o hA
  obtain ⟨b', o', he, hc, _⟩ := h 0 _ (List.getElem?_eq_getElem h0)
  rw [hA] at he
  simp at he
  obtain ⟨rfl, rfl⟩ := he
  exact World.block_lt_of_cell? w _ hc
theorem Vals.below {w w1 : World} {A : Option Addr} {xs : List V} (h : Vals w A xs) (hb : Below w.heap.size w w1) : Vals w1 A xs :=
  h.keeps (Keeps.of_below hb) (fun h0 b o hA hS => by have := h.lt h0 b o hA; omega)
theorem add_at3 (g o j : Nat) : (⟨g, o, none⟩ : Addr).add j = ⟨g, o + j, none⟩ := by unfold Addr.add; split <;> simp_all
theorem flat_at {xs : List V} {j : Nat} {u : Value} (h : (flat xs)[j]? = some u) : ∃ x, xs[j / 3]? = some x ∧ x.cells[j % 3]? = some u := by
  have hl := (List.getElem?_eq_some_iff.1 h).1
  rw [flat_length] at hl
  have hi : j / 3 < xs.length := by omega
  refine ⟨xs[j / 3], List.getElem?_eq_getElem hi, ?_⟩
  have := flat_get xs (j / 3) _ (List.getElem?_eq_getElem hi) (j % 3) (by omega)
  rw [← this, ← h]
  congr 1
  omega
theorem Vals.src {P : Program} {w : World} {A : Option Addr} {xs : List V} {c : Nat} {tx e : TypeId} (h : Vals w A xs) (hk : P.underlying tx = some (.slice e)) : Src P 3 tx (.slice A xs.length c) xs.length (flat xs) w := by
  cases hs : xs with
  | nil =>
    cases A with
    | none => exact Src.ofNil w hk c
    | some a => exact Src.ofSlice w hk a 0 c [] rfl (by simp) (by simp)
  | cons s l =>
    obtain ⟨b, o, rfl, _⟩ := h 0 s (by simp [hs])
    rw [← hs]
    refine Src.ofSlice w hk _ _ c _ (flat_length xs) ?_ (flat_one xs)
    intro j u hu
    obtain ⟨x, h1, h2⟩ := flat_at hu
    obtain ⟨b', o', he, hc1, hc2, hc3⟩ := h _ x h1
    simp at he
    obtain ⟨rfl, rfl⟩ := he
    rw [add_at3]
    have hj : j % 3 = 0 ∨ j % 3 = 1 ∨ j % 3 = 2 := by omega
    rcases hj with hj | hj | hj <;> rw [hj] at h2 <;> simp [V.cells] at h2 <;> subst h2
    · rw [show o + j = o + j / 3 * 3 by omega]; exact hc1
    · rw [show o + j = o + j / 3 * 3 + 1 by omega]; exact hc2
    · rw [show o + j = o + j / 3 * 3 + 2 by omega]; exact hc3
theorem Vals.own {w : World} {base e n c : Nat} {A : Option Addr} {xs : List V} (h : w.ownsRow base e 3 (.slice A n c) n (flat xs)) : Vals w A xs := fun i x hi => by
  have hil := (List.getElem?_eq_some_iff.1 hi).1
  rcases h.2 with ⟨h1, h2⟩ | ⟨g, cap, cur, h1, _⟩
  · have := h.1
    rw [flat_length] at this
    omega
  · simp at h1
    obtain ⟨rfl, rfl⟩ := h1
    have hc := h.cells (g := g) rfl
    refine ⟨g, 0, rfl, ?_, ?_, ?_⟩
    · have := hc (i * 3 + 0) _ ((flat_get xs i x hi 0 (by omega)).trans rfl)
      rwa [add_at3] at this
    · have := hc (i * 3 + 1) _ ((flat_get xs i x hi 1 (by omega)).trans rfl)
      rwa [add_at3, ← Nat.add_assoc] at this
    · have := hc (i * 3 + 2) _ ((flat_get xs i x hi 2 (by omega)).trans rfl)
      rwa [add_at3, ← Nat.add_assoc] at this
theorem Vals.lit (w : World) (xs : List V) (t : TypeId) {n : Nat} (hn : n = w.heap.size) : Vals (w.alloc (.cells (flat xs).toArray t)) (some ⟨n, 0, none⟩) xs := fun i x hi => by
  subst hn
  refine ⟨_, _, rfl, ?_, ?_, ?_⟩
  · rw [blk_cell (blk_new w _)]; simpa [V.cells] using flat_get xs i x hi 0 (by omega)
  · rw [blk_cell (blk_new w _)]; simpa [V.cells] using flat_get xs i x hi 1 (by omega)
  · rw [blk_cell (blk_new w _)]; simpa [V.cells] using flat_get xs i x hi 2 (by omega)

/-- A list, at block b, its row told. -/
structure IsListAt (w : World) (F : Nat → Prop) (b : Nat) (v : Value) (xs : List V) : Prop where
  blk : w.heap[b]? = some (.cells #[v] 88 (0, 0))
  here : F b
  row : Row w F 50 3 v xs.length (flat xs)
  inw : In F w
def IsList (w : World) (F : Nat → Prop) (b : Nat) (xs : List V) : Prop := ∃ v, IsListAt w F b v xs
theorem IsList.inw {w : World} {F : Nat → Prop} {b : Nat} {xs : List V} (h : IsList w F b xs) : In F w := by obtain ⟨_, h⟩ := h; exact h.inw
theorem IsList.keeps {w w1 : World} {F S : Nat → Prop} {b : Nat} {xs : List V} (h : IsList w F b xs) (hk : Keeps S w w1) (hn : Apart F S) : IsList w1 F b xs := by
  obtain ⟨v, h⟩ := h
  exact ⟨v, hk.heap h.blk (hn _ h.here), h.here, h.row.keeps hk hn, h.inw.keeps hk⟩
theorem IsList.none {w w1 : World} {F : Nat → Prop} {b : Nat} {xs : List V} (h : IsList w F b xs) (hk : Keeps (fun _ => False) w w1) : IsList w1 F b xs := h.keeps hk (Apart.no _)
theorem IsListAt.put {wr w1 w2 : World} {F : Nat → Prop} {b m n : Nat} {v v1 : Value} {xs ys : List V} {cs : List Value} (h : IsListAt wr F b v xs) (hn : n = ys.length) (hc : cs = flat ys)
    (hR : Row w1 (fun k => F k ∨ wr.heap.size ≤ k) 50 3 v1 n cs) (hk : Keeps (fun k => v.ownBlock = some k) (wr.drewN m) w1) (h2 : SameBut b w1 w2) (hb : w2.heap[b]? = some (.cells #[v1] 88 (0, 0))) :
    ∃ F2, IsListAt w2 F2 b v1 ys ∧ Keeps F wr w2 ∧ Fresh F F2 wr := by
  subst hn hc
  have hne : ∀ k, v1.ownBlock = some k → k ≠ b := hR.ne (hk.heap (k := b) h.blk (fun e => h.row.ne h.blk (by decide) b e rfl)) (by decide)
  obtain ⟨F2, h3, h4, h5, h6, h7⟩ := upd_end h.inw h.here h.row hR hk hne h2
  exact ⟨F2, ⟨hb, h4, h3, h5⟩, h6, h7⟩

theorem slices_Clone (w : World) (A : Option Addr) (c : Nat) (xs : List V) (h : Vals w A xs) (hl : xs.length * 32 ≤ 140737488355328) (hnil : A = none → xs = []) :
    Calls Try.prog 59 #[.slice A xs.length c] w fun e w' => ∃ A' c' F, e = .returned (.slice A' xs.length c') ∧ Row w' F 50 3 (.slice A' xs.length c') xs.length (flat xs) ∧ In F w' ∧ Keeps (fun _ => False) w w' ∧ Fresh (fun _ => False) F w := by
  have H := hidden h
  clear h
  refine post_gen fun R hR => ?_
  cases A with
  | none =>
    obtain rfl := hnil rfl
    have hrun := fun W => Lib.run_eql_slice_nil (P := Try.prog) W 41 50 none 0 c 0 0 Try.underlying41
    go_enter Try.func59, Try.ntmps59
    go_wp2
    exact hR.out _ _ ⟨_, _, fun _ => False, rfl, Row.nil _ _ _ _, fun _ h => h.elim, Keeps.refl _ _, fun _ h => h.elim⟩
  | some a =>
    have hrun := fun W => Lib.run_eql_slice_nil (P := Try.prog) W 41 50 (some a) xs.length c 0 0 Try.underlying41
    go_enter Try.func59, Try.ntmps59
    go_wp2_with (at_builtin; refine app_list rfl (fun k => k = w.heap.size) _ _ _ _ _ _ 3 32 rfl Try.underlying41 info_val rfl (by decide) (.slice (some ⟨w.heap.size, 0, none⟩) 0 0) _ _ rfl (Row.made0 w _ 3) _ rfl _ _ ((H.out.below ((Below.refl _ w).alloc (Nat.le_refl _) _)).src Try.underlying41) (by omega) (by omega) ?_; intro A2 c2 w1 hR2 hK2; have HR2 := hidden hR2; have HK2 := hidden hK2; clear hR2 hK2)
    have g1 := HR2.out
    simp only [Nat.zero_add, List.nil_append] at g1
    have g2 := HK2.out.size
    simp at g2
    have hK : Keeps (fun _ => False) w w1 := ((Keeps.refl (fun _ => False) w).alloc _).trans HK2.out (fun i hi h => by simp [Value.ownBlock] at h; omega)
    refine hR.out _ _ ⟨A2, c2, fun k => w.heap.size ≤ k ∧ k < w1.heap.size, by simp, ⟨g1.1, fun k hk => ⟨?_, g1.lt k hk⟩⟩, fun k hk => hk.2, hK, fun k hk => .inr hk.1⟩
    have := g1.2 k hk
    simp at this
    omega

theorem list_New (w : World) (A : Option Addr) (c : Nat) (xs : List V) (h : Vals w A xs) (hl : xs.length * 32 ≤ 140737488355328) (hnil : A = none → xs = []) :
    Calls Try.prog 28 #[.slice A xs.length c] w fun e w' => ∃ b F, e = .returned (.pointer (some ⟨b, 0, none⟩)) ∧ IsList w' F b xs ∧ Keeps (fun _ => False) w w' ∧ Fresh (fun _ => False) F w := by
  have key := hidden (slices_Clone w A c xs h hl hnil)
  clear h
  refine post_gen fun R hR => ?_
  go_enter Try.func28, Try.ntmps28
  go_wp2_with fail
  refine key.out.mono ?_
  rintro e w1 ⟨A', c', F, rfl, hRow, hin, hK, hF⟩
  have HRow := hidden hRow
  clear hRow key
  go_wp2
  refine hR.out _ _ ⟨w1.heap.size, fun k => F k ∨ k = w1.heap.size, rfl, ⟨_, blk_new _ _, .inr rfl, (HRow.out.alloc _).mono (fun k _ h => .inl h), fun k hk => ?_⟩, hK.alloc _, fun k hk => ?_⟩
  · rcases hk with hk | hk
    · have := hin k hk; simp; omega
    · simp [hk]
  · rcases hk with hk | hk
    · exact hF k hk
    · have := hK.size; exact .inr (by omega)

theorem list_Len (w : World) (F : Nat → Prop) (b : Nat) (xs : List V) (h : IsList w F b xs) :
    Calls Try.prog 37 #[.pointer (some ⟨b, 0, none⟩)] w fun e w' => e = .returned (.int .i64 xs.length) ∧ w = w' := by
  obtain ⟨v, h⟩ := h
  obtain ⟨A, c, rfl⟩ := h.row.form
  have c0 : w.cell? ⟨b, 0, none⟩ = some (.slice A xs.length c) := blk_cell h.blk 0
  clear h
  go_enter Try.func37, Try.ntmps37
  go_wp2
  go_ret
  exact ⟨rfl, rfl⟩

theorem own_none {w : World} {base e size n c : Nat} {A : Option Addr} {xs : List Value} (h : w.ownsRow base e size (.slice A n c) n xs) : A = none → n = 0 := by
  rintro rfl
  rcases h.2 with ⟨_, h⟩ | ⟨g, cap, cur, h1, _⟩
  · exact h
  · simp at h1
theorem list_All (w : World) (F : Nat → Prop) (b : Nat) (xs : List V) (h : IsList w F b xs) (hl : xs.length * 32 ≤ 140737488355328) :
    Calls Try.prog 60 #[.pointer (some ⟨b, 0, none⟩)] w fun e w' => ∃ A' c' F', e = .returned (.slice A' xs.length c') ∧ Row w' F' 50 3 (.slice A' xs.length c') xs.length (flat xs) ∧ In F' w' ∧ Keeps (fun _ => False) w w' ∧ Fresh (fun _ => False) F' w := by
  obtain ⟨v, h⟩ := h
  obtain ⟨A, c, rfl⟩ := h.row.form
  have c0 : w.cell? ⟨b, 0, none⟩ = some (.slice A xs.length c) := blk_cell h.blk 0
  have key := hidden (slices_Clone w A c xs (Vals.own h.row.1) hl (fun e => List.eq_nil_of_length_eq_zero (own_none h.row.1 e)))
  clear h
  refine post_gen fun R hR => ?_
  go_enter Try.func60, Try.ntmps60
  go_wp2_with fail
  refine key.out.mono ?_
  rintro e w1 ⟨A', c', F', rfl, hRow, hin, hK, hF⟩
  have HRow := hidden hRow
  clear hRow key
  go_wp2
  exact hR.out _ _ ⟨A', c', F', rfl, HRow.out, hin, hK, hF⟩

theorem list_place (w : World) (F : Nat → Prop) (b : Nat) (xs : List V) (at' : Int) (h : IsList w F b xs) :
    Calls Try.prog 65 #[.pointer (some ⟨b, 0, none⟩), .int .i64 at'] w fun e w' => e = .returned (.int .i64 (if at' < 0 ∨ (xs.length : Int) ≤ at' then -1 else at')) ∧ w = w' := by
  obtain ⟨v, h⟩ := h
  obtain ⟨A, c, rfl⟩ := h.row.form
  have c0 : w.cell? ⟨b, 0, none⟩ = some (.slice A xs.length c) := blk_cell h.blk 0
  clear h
  refine post_gen fun R hR => ?_
  by_cases h1 : at' < 0
  · go_enter Try.func65, Try.ntmps65
    go_wp2
    exact hR.out _ _ ⟨by rw [if_pos (.inl h1)]; try rfl, rfl⟩
  by_cases h2 : (xs.length : Int) ≤ at'
  · go_enter Try.func65, Try.ntmps65
    go_wp2
    exact hR.out _ _ ⟨by rw [if_pos (.inr h2)]; try rfl, rfl⟩
  · go_enter Try.func65, Try.ntmps65
    go_wp2
    exact hR.out _ _ ⟨by rw [if_neg (by omega)]; try rfl, rfl⟩

theorem list_Get_none (w : World) (F : Nat → Prop) (b : Nat) (xs : List V) (at' : Int) (h : IsList w F b xs) (hat : at' < 0 ∨ (xs.length : Int) ≤ at') :
    Calls Try.prog 57 #[.pointer (some ⟨b, 0, none⟩), .int .i64 at'] w fun e w' => e = .returned (.tuple #[V.val V.null, .int .i64 1]) ∧ Keeps (fun _ => False) w w' := by
  have key := hidden (fun W (h : IsList W F b xs) => list_place W F b xs at' h)
  have H := hidden h
  rw [if_pos hat] at key
  clear h hat
  refine post_gen fun R hR => ?_
  go_enter Try.func57, Try.ntmps57
  go_wp2_with fail
  refine (key.out _ (H.out.none ((Keeps.refl _ _).alloc _))).mono ?_
  rintro e _ ⟨rfl, rfl⟩
  go_wp2_with fail
  refine (value_Null _).mono ?_
  rintro e w1 ⟨rfl, hK⟩
  have HV := hidden ((IsVar.new w V.null).keeps hK (fun h => h))
  obtain ⟨c0, c1, c2, f0, f1, f2⟩ := HV.out.cells
  simp only [V.null] at c0 c1 c2
  unfold V.val V.null
  go_wp2
  obtain ⟨d0, d1, d2, _⟩ := (HV.out.set V.null).cells
  simp only [V.null] at d0 d1 d2
  exact bodyPost_ret (v := .tuple #[V.val V.null, .int .i64 1]) (by simp [results, Try.results57, go_sem, d0, d1, d2, V.val, V.null]) rfl (hR.out _ _ ⟨rfl, (((Keeps.refl _ w).alloc _).trans hK (fun _ _ h => h)).var (fun h => by omega) _ _ _⟩)

theorem list_Get_some (w : World) (F : Nat → Prop) (b : Nat) (xs : List V) (i : Nat) (x : V) (h : IsList w F b xs) (hx : xs[i]? = some x) :
    Calls Try.prog 57 #[.pointer (some ⟨b, 0, none⟩), .int .i64 i] w fun e w' => e = .returned (.tuple #[V.val x, .int .i64 0]) ∧ Keeps (fun _ => False) w w' := by
  have hi := (List.getElem?_eq_some_iff.1 hx).1
  have key := hidden (fun W (h : IsList W F b xs) => list_place W F b xs i h)
  rw [if_neg (by omega)] at key
  have H := hidden h
  obtain ⟨v, hL⟩ := h.none ((Keeps.refl _ w).alloc (.cells #[.int .i64 0, .int .i64 0, .string ⟨#[]⟩] 50))
  obtain ⟨A, c, rfl⟩ := hL.row.form
  obtain ⟨rb, ro, rfl, h0, h1, h2⟩ := Vals.own hL.row.1 i x hx
  have l0 := blk_cell hL.blk 0
  simp only [List.getElem?_toArray, List.getElem?_cons_zero] at l0
  have HV := hidden (IsVar.new w V.null)
  obtain ⟨c0, c1, c2, f0, f1, f2⟩ := HV.out.cells
  simp only [V.null] at c0 c1 c2 f0 f1 f2
  have hneg : ¬ ((i : Int) < 0) := by omega
  have HX := hidden hx
  clear h hx hL
  refine post_gen fun R hR => ?_
  go_enter Try.func57, Try.ntmps57
  go_wp2_with fail
  refine (key.out _ (H.out.none ((Keeps.refl _ _).alloc _))).mono ?_
  rintro e _ ⟨rfl, rfl⟩
  go_wp2
  exact bodyPost_ret (v := .tuple #[V.val x, .int .i64 0]) (by simp [results, Try.results57, go_sem, V.val]) rfl (hR.out _ _ ⟨rfl, (Keeps.refl _ w).alloc _⟩)

end Go.Proofs.Ytcikeaabijfmpaa
