/- Layer 5: the statements' model: keys and values in a row; what comes out of rows of any kind. -/
import Derived.Test.YtpaefeknbpfpmaaTabV
namespace Go.Proofs.Ytpaefeknbpfpmaa
open Go.RowKit
set_option maxRecDepth 100000

section
variable {P : Program} {W : World} {G : Nat → Prop} {e size n c t : Nat} {A : Option Addr} {cs : List Value}
/-- A row of the call's own, as what is appended. -/
theorem Row.src (h : Row W G e size (.slice A n c) n cs) (h1 : ∀ u ∈ cs, u.oneCell' = true) {e' : TypeId} (hu : P.underlying t = some (.slice e')) : Src P size t (.slice A n c) n cs W := by
  rcases h.1.2 with ⟨h2, h3⟩ | ⟨g, cap, cur, h2, _⟩
  · simp at h2
    obtain ⟨rfl, rfl, rfl⟩ := h2
    obtain rfl : cs = [] := List.eq_nil_of_length_eq_zero (by simpa using h.1.1)
    exact Src.ofNil W hu 0
  · simp at h2
    obtain ⟨rfl, rfl⟩ := h2
    exact Src.ofSlice W hu _ _ _ _ h.1.1 (fun j u hj => h.1.cells (g := g) rfl j u hj) h1
theorem Row.srcTake (h : Row W G e size (.slice A n c) n cs) (h1 : ∀ u ∈ cs, u.oneCell' = true) {i : Nat} (hi : i ≤ n) {e' : TypeId} (hu : P.underlying t = some (.slice e')) : Src P size t (.slice A i c) i (cs.take (i * size)) W :=
  (h.take hi).src (fun u hu => h1 u (List.mem_of_mem_take hu)) hu
/-- What stands from i on: the slice value that the walk makes of it (q, s9, c9), and what it tells in each later world. -/
theorem Row.srcDrop {g : Nat} (h : Row W G e size (.slice (some ⟨g, 0, none⟩) n c) n cs) (h1 : ∀ u ∈ cs, u.oneCell' = true) {i : Nat} (hi : i ≤ n) {e' : TypeId} (hu : P.underlying t = some (.slice e')) :
    ∃ (q s9 c9 : Nat), (c = i → q = 0 ∧ s9 = 0 ∧ c9 = 0) ∧ (¬ c = i → q = i * size ∧ s9 = n - i ∧ c9 = c - i) ∧ s9 = n - i ∧ ∀ (W' : World) (G' : Nat → Prop), Row W' G' e size (.slice (some ⟨g, 0, none⟩) n c) n cs → Src P size t (.slice (some ⟨g, q, none⟩) s9 c9) s9 (cs.drop (i * size)) W' := by
  have hcap := h.cap
  have hl : (cs.drop (i * size)).length = (n - i) * size := by rw [List.length_drop, h.1.1, Nat.sub_mul]
  have h1' : ∀ u ∈ cs.drop (i * size), u.oneCell' = true := fun u hu => h1 u (List.mem_of_mem_drop hu)
  by_cases hz : c = i
  · refine ⟨0, 0, 0, fun _ => ⟨rfl, rfl, rfl⟩, fun h => absurd hz h, by omega, fun W' G' h' => ?_⟩
    have e0 : cs.drop (i * size) = [] := List.eq_nil_of_length_eq_zero (by rw [hl]; have : n - i = 0 := by omega
                                                                           rw [this, Nat.zero_mul])
    rw [e0]
    exact Src.ofSlice W' hu _ _ _ _ (by simp) (fun j u hj => by simp at hj) (fun u hu => by simp at hu)
  · refine ⟨i * size, n - i, c - i, fun h => absurd h hz, fun _ => ⟨rfl, rfl, rfl⟩, rfl, fun W' G' h' => ?_⟩
    refine Src.ofSlice W' hu _ _ _ _ hl (fun j u hj => ?_) h1'
    rw [List.getElem?_drop] at hj
    have := h'.1.cells (g := g) rfl (i * size + j) u hj
    rw [add_at3] at this ⊢
    rw [← this]
    congr 2
    omega
end

/-- A pair's cells: an entry's key and value. -/
def Ent.pair (e : Ent) : List Value := [.int .i64 e.key.k, .int .i64 e.key.n, .string e.key.t, .int .i64 e.val.k, .int .i64 e.val.n, .string e.val.t]
def flatP (E : List Ent) : List Value := E.flatMap Ent.pair
theorem flatP_length (E : List Ent) : (flatP E).length = E.length * 6 := by
  induction E with
  | nil => rfl
  | cons x xs ih => simp only [flatP, List.flatMap_cons, List.length_append] at ih ⊢; rw [ih]; simp [Ent.pair]; omega
theorem flatP_append (E G : List Ent) : flatP (E ++ G) = flatP E ++ flatP G := by simp [flatP]
theorem flatP_one (E : List Ent) : ∀ u ∈ flatP E, u.oneCell' = true := by
  intro u hu
  simp only [flatP, List.mem_flatMap] at hu
  obtain ⟨v, _, h⟩ := hu
  simp [Ent.pair] at h
  rcases h with rfl | rfl | rfl | rfl | rfl | rfl <;> rfl
theorem flatP_take (xs : List Ent) : ∀ m, (flatP xs).take (m * 6) = flatP (xs.take m) := by
  induction xs with
  | nil => intro m; simp [flatP]
  | cons x xs ih =>
    intro m
    cases m with
    | zero => simp [flatP]
    | succ m =>
      have e : flatP (x :: xs) = x.pair ++ flatP xs := by simp [flatP]
      have e2 : flatP ((x :: xs).take (m + 1)) = x.pair ++ flatP (xs.take m) := by simp [flatP]
      rw [e, e2, ← ih m, List.take_append, List.take_of_length_le (by simp [Ent.pair]; omega)]
      congr 2
      simp [Ent.pair]; omega
theorem flatP_drop (xs : List Ent) (i : Nat) (hi : i ≤ xs.length) : (flatP xs).drop (i * 6) = flatP (xs.drop i) := by
  have h := flatP_append (xs.take i) (xs.drop i)
  rw [List.take_append_drop] at h
  have hl : (flatP (xs.take i)).length = i * 6 := by rw [flatP_length, List.length_take, Nat.min_eq_left hi]
  rw [h, ← hl, List.drop_left]
theorem flatP_get (xs : List Ent) : ∀ (i : Nat) (x : Ent), xs[i]? = some x → ∀ j, j < 6 → (flatP xs)[i * 6 + j]? = x.pair[j]? := by
  induction xs with
  | nil => intro i x h; simp at h
  | cons y xs ih =>
    intro i x h j hj
    have e : flatP (y :: xs) = y.pair ++ flatP xs := by simp [flatP]
    rw [e]
    cases i with
    | zero =>
      simp at h
      subst h
      rw [List.getElem?_append_left (by simp [Ent.pair]; omega)]
      simp
    | succ i =>
      simp at h
      rw [List.getElem?_append_right (by simp [Ent.pair]; omega)]
      have := ih i x h j hj
      rw [← this]
      congr 1
      simp [Ent.pair]; omega
structure PairAt (w : World) (g o i : Nat) (x : Ent) : Prop where
  c0 : w.cell? ⟨g, o + i * 6, none⟩ = some (.int .i64 x.key.k)
  c1 : w.cell? ⟨g, o + i * 6 + 1, none⟩ = some (.int .i64 x.key.n)
  c2 : w.cell? ⟨g, o + i * 6 + 2, none⟩ = some (.string x.key.t)
  c3 : w.cell? ⟨g, o + i * 6 + 3, none⟩ = some (.int .i64 x.val.k)
  c4 : w.cell? ⟨g, o + i * 6 + 4, none⟩ = some (.int .i64 x.val.n)
  c5 : w.cell? ⟨g, o + i * 6 + 5, none⟩ = some (.string x.val.t)
theorem PairAt.keeps {w w1 : World} {S : Nat → Prop} {g o i : Nat} {x : Ent} (h : PairAt w g o i x) (hk : Keeps S w w1) (hn : ¬ S g) : PairAt w1 g o i x :=
  ⟨hk.cell h.c0 hn, hk.cell h.c1 hn, hk.cell h.c2 hn, hk.cell h.c3 hn, hk.cell h.c4 hn, hk.cell h.c5 hn⟩
def Pairs (w : World) (A : Option Addr) (E : List Ent) : Prop := ∀ i x, E[i]? = some x → ∃ g o, A = some ⟨g, o, none⟩ ∧ PairAt w g o i x
theorem Pairs.keeps {w w1 : World} {S : Nat → Prop} {A : Option Addr} {E : List Ent} (h : Pairs w A E) (hk : Keeps S w w1) (hn : ∀ b o, A = some ⟨b, o, none⟩ → ¬ S b) : Pairs w1 A E := fun i x hi => by
  obtain ⟨b, o, rfl, h1⟩ := h i x hi
  exact ⟨b, o, rfl, h1.keeps hk (hn b o rfl)⟩
theorem Pairs.calm {w w1 : World} {A : Option Addr} {E : List Ent} (h : Pairs w A E) (hk : Keeps (fun _ => False) w w1) : Pairs w1 A E := h.keeps hk (fun _ _ _ h => h)
theorem Pairs.own {w : World} {base e n c : Nat} {A : Option Addr} {E : List Ent} (h : w.ownsRow base e 6 (.slice A n c) n (flatP E)) : Pairs w A E := fun i x hi => by
  have hil := (List.getElem?_eq_some_iff.1 hi).1
  rcases h.2 with ⟨h1, h2⟩ | ⟨g, cap, cur, h1, _⟩
  · have := h.1
    rw [flatP_length] at this
    omega
  · simp at h1
    obtain ⟨rfl, rfl⟩ := h1
    have hc := h.cells (g := g) rfl
    have k : ∀ j v, j < 6 → x.pair[j]? = some v → w.cell? ⟨g, 0 + (i * 6 + j), none⟩ = some v := fun j v hj hv => by
      have := hc (i * 6 + j) v ((flatP_get E i x hi j hj).trans hv)
      rwa [add_at3] at this
    exact ⟨g, 0, rfl, ⟨k 0 _ (by omega) rfl, k 1 _ (by omega) rfl, k 2 _ (by omega) rfl, k 3 _ (by omega) rfl, k 4 _ (by omega) rfl, k 5 _ (by omega) rfl⟩⟩
theorem info_pair : (Try.prog.info? 39).map (fun i => (i.zero, i.size, i.bytes)) = some (some (.agg #[.int .i64 0, .int .i64 0, .string ⟨#[]⟩, .int .i64 0, .int .i64 0, .string ⟨#[]⟩]), 6, 64) := by kernel_rfl
theorem flatP_val (E : List Ent) (y : V) : ∀ (i : Nat) (hi : i < E.length), (((flatP E).set (i * 6 + 3) (.int .i64 y.k)).set (i * 6 + 4) (.int .i64 y.n)).set (i * 6 + 5) (.string y.t) = flatP (E.set i { E[i] with val := y }) := by
  induction E with
  | nil => intro i h; simp at h
  | cons x xs ih =>
    intro i hi
    cases i with
    | zero => simp [flatP, Ent.pair]
    | succ i =>
      have e : flatP (x :: xs) = x.pair ++ flatP xs := by simp [flatP]
      have e2 : flatP ((x :: xs).set (i + 1) { (x :: xs)[i + 1] with val := y }) = x.pair ++ flatP (xs.set i { xs[i]'(by simpa using hi) with val := y }) := by simp [flatP]
      have h8 : x.pair.length = 6 := rfl
      have k : ∀ (L : List Value) (j : Nat) (v : Value), (x.pair ++ L).set ((i + 1) * 6 + j) v = x.pair ++ L.set (i * 6 + j) v := fun L j v => by
        rw [List.set_append_right _ _ (by rw [h8]; omega), h8]
        congr 2
        omega
      rw [e, e2, k, k, k, ih i (by simpa using hi)]
/-- Where a key stands first; -1: nowhere. -/
def atT (L : List Ent) (key : V) : Int := if hasL L key then (L.findIdx (fun x => decide (x.key = key)) : Int) else -1
theorem atT_some {L : List Ent} (hd : L.Pairwise (fun a b => a.key ≠ b.key)) {q : Nat} (hq : q < L.length) : atT L L[q].key = q := by
  have hh : hasL L L[q].key = true := hasL_iff.2 ⟨L[q], List.getElem_mem hq, rfl⟩
  rw [atT, if_pos hh]
  have : L.findIdx (fun x => decide (x.key = L[q].key)) = q := by
    rw [List.findIdx_eq hq]
    refine ⟨by simp, fun j hj => ?_⟩
    have := List.pairwise_iff_getElem.1 hd j q (by omega) hq hj
    simpa using this
  rw [this]
theorem atT_none {L : List Ent} {key : V} (h : ∀ x ∈ L, x.key ≠ key) : atT L key = -1 := by
  rw [atT, if_neg]
  intro hh
  obtain ⟨x, hx, e⟩ := hasL_iff.1 hh
  exact h x hx e
set_option maxHeartbeats 4000000 in
theorem model_at (w : World) (A : Option Addr) (c : Nat) (L : List Ent) (key : V) (h : Pairs w A L) (hl : L.length ≤ 1073741824) :
    Calls Try.prog 15 #[.slice A L.length c, key.val] w fun e w' => e = .returned (.int .i64 (atT L key)) ∧ Keeps (fun _ => False) w w' := by
  have HP := hidden h
  have VK := hidden (IsVar.new w key)
  have HK0 := hidden (show Keeps (fun _ => False) w (w.alloc (.cells #[.int .i64 key.k, .int .i64 key.n, .string key.t] 30)) from (Keeps.refl _ w).alloc _)
  clear h
  refine post_gen fun R hR => ?_
  unfold V.val
  go_enter Try.func15, Try.ntmps15
  go_wp2_with fail
  go_loopw [9] (fun i wr => ∃ k : Nat, k ≤ L.length ∧ i = .int .i64 k ∧ Hid (∀ (j : Nat) (hj : j < L.length), j < k → L[j].key ≠ key) ∧ Keeps (fun _ => False) (w.alloc (.cells #[.int .i64 key.k, .int .i64 key.n, .string key.t] 30)) wr) (fun i _ => L.length - (intOf i).toNat)
  case atStart => exact ⟨0, Nat.zero_le _, rfl, hidden (fun j hj h => absurd h (by omega)), Keeps.refl _ _⟩
  case round =>
    obtain ⟨k, hk, rfl, HNO, hK⟩ := hrel
    have HK := hidden hK
    obtain ⟨k0, k1, k2, -⟩ := (VK.out.keeps HK.out (fun h => h)).cells
    have hvk := blk_lt (VK.out.keeps HK.out (fun h => h))
    by_cases hlt : k < L.length
    · have HPr := hidden ((HP.out.calm HK0.out).calm HK.out)
      obtain ⟨g, o, rfl, e0, e1, e2, e3, e4, e5⟩ := HPr.out k L[k] (List.getElem?_eq_getElem hlt)
      have hgw := World.block_lt_of_cell? wr _ e0
      have HX := hidden (show L[k]? = some L[k] from List.getElem?_eq_getElem hlt)
      have HNX := hidden (show L[k].key ≠ key → ∀ (j : Nat) (hj : j < L.length), j < k + 1 → L[j].key ≠ key from fun h j hj hjk => by
        by_cases e : j = k
        · subst e; exact h
        · exact HNO.out j hj (by omega))
      have HYES := hidden (show L[k].key = key → atT L key = k from fun h => by
        rw [atT, if_pos (hasL_iff.2 ⟨L[k], List.getElem_mem hlt, h⟩)]
        have : L.findIdx (fun x => decide (x.key = key)) = k := by
          rw [List.findIdx_eq hlt]
          exact ⟨by simpa using h, fun j hj => by simpa using HNO.out j (by omega) hj⟩
        rw [this])
      clear hK
      generalize L[k] = x at *
      by_cases hx : x.key = key
      · have HY := hidden (HYES.out hx)
        rw [hx] at e0 e1 e2
        clear hx HYES HNX HX
        go_wp2_with fail
        exact hR.out _ _ ⟨by rw [HY.out] <;> rfl, HK0.out.trans (HK.out.alloc _) (fun _ _ h => h)⟩
      · have HN2 := hidden (HNX.out hx)
        clear HYES HNX
        rcases V.ne_cases' hx with d0 | ⟨d0, d1⟩ | ⟨d0, d1, d2⟩
        all_goals
          clear hx
          try (rw [← d0] at e0; clear d0)
          try (rw [← d1] at e1; clear d1)
          try have d3 := fun e => d0 (Eq.symm e)
          try have d4 := fun e => d1 (Eq.symm e)
          try have d5 := fun e => d2 (Eq.symm e)
          try have d6 := beq_eq_false_iff_ne.2 d4
          try have d7 := beq_eq_false_iff_ne.2 d5
          try have d8 : (x.key.t == key.t) = false := by rw [beq_eq_false_iff_ne]; intro e; exact d5 (by rw [e])
          try have d9 : ¬ x.key.t = key.t := by intro e; exact d5 (by rw [e])
          go_wp2_with fail
          go_roundw
          case rel => exact ⟨k + 1, hlt, by go_num, HN2, HK.out.alloc _⟩
          case measure => simp [intOf]; omega
    · obtain rfl : k = L.length := by omega
      have HA := hidden (atT_none (L := L) (key := key) (fun x hx e => by
        obtain ⟨j, hj, rfl⟩ := List.mem_iff_getElem.1 hx
        exact HNO.out j hj hj e))
      clear hK
      go_wp2_with fail
      exact hR.out _ _ ⟨by rw [HA.out]; rfl, HK0.out.trans HK.out (fun _ _ h => h)⟩
end Go.Proofs.Ytpaefeknbpfpmaa
