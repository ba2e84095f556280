/- Layer 5: tables (table.Table): their cells; the walk of find. -/
import Derived.Test.YtpaefeknbpfpmaaHash
import Derived.Test.YtpaefeknbpfpmaaInts
namespace Go.Proofs.Ytpaefeknbpfpmaa
open Go.RowKit
set_option maxRecDepth 100000

/-- An entry: its key, its value, when it came, whether it is gone. -/
structure Ent where
  key : V
  val : V
  ser : Int
  gone : Bool
def Ent.cells (e : Ent) : List Value := [.int .i64 e.key.k, .int .i64 e.key.n, .string e.key.t, .int .i64 e.val.k, .int .i64 e.val.n, .string e.val.t, .int .i64 e.ser, .bool e.gone]
def flatE (E : List Ent) : List Value := E.flatMap Ent.cells
theorem flatE_length (E : List Ent) : (flatE E).length = E.length * 8 := by
  induction E with
  | nil => rfl
  | cons x xs ih => simp only [flatE, List.flatMap_cons, List.length_append] at ih ⊢; rw [ih]; simp [Ent.cells]; omega
theorem flatE_append (E G : List Ent) : flatE (E ++ G) = flatE E ++ flatE G := by simp [flatE]
theorem flatE_one (E : List Ent) : ∀ u ∈ flatE E, u.oneCell' = true := by
  intro u hu
  simp only [flatE, List.mem_flatMap] at hu
  obtain ⟨v, _, h⟩ := hu
  simp [Ent.cells] at h
  rcases h with rfl | rfl | rfl | rfl | rfl | rfl | rfl | rfl <;> rfl
theorem flatE_take (xs : List Ent) : ∀ m, (flatE xs).take (m * 8) = flatE (xs.take m) := by
  induction xs with
  | nil => intro m; simp [flatE]
  | cons x xs ih =>
    intro m
    cases m with
    | zero => simp [flatE]
    | succ m =>
      have e : flatE (x :: xs) = x.cells ++ flatE xs := by simp [flatE]
      have e2 : flatE ((x :: xs).take (m + 1)) = x.cells ++ flatE (xs.take m) := by simp [flatE]
      rw [e, e2, ← ih m, List.take_append, List.take_of_length_le (by simp [Ent.cells]; omega)]
      congr 2
      simp [Ent.cells]; omega
theorem flatE_drop (xs : List Ent) (i : Nat) (hi : i ≤ xs.length) : flatE (xs.drop i) = (flatE xs).drop (i * 8) := by
  have h := flatE_append (xs.take i) (xs.drop i)
  rw [List.take_append_drop] at h
  have hl : (flatE (xs.take i)).length = i * 8 := by rw [flatE_length, List.length_take, Nat.min_eq_left hi]
  rw [h, ← hl, List.drop_left]
theorem flatE_get (xs : List Ent) : ∀ (i : Nat) (x : Ent), xs[i]? = some x → ∀ j, j < 8 → (flatE xs)[i * 8 + j]? = x.cells[j]? := by
  induction xs with
  | nil => intro i x h; simp at h
  | cons y xs ih =>
    intro i x h j hj
    have e : flatE (y :: xs) = y.cells ++ flatE xs := by simp [flatE]
    rw [e]
    cases i with
    | zero =>
      simp at h
      subst h
      rw [List.getElem?_append_left (by simp [Ent.cells]; omega)]
      simp
    | succ i =>
      simp at h
      rw [List.getElem?_append_right (by simp [Ent.cells]; omega)]
      have := ih i x h j hj
      rw [← this]
      congr 1
      simp [Ent.cells]; omega
/-- Entry i of a row, its cells. -/
structure EntAt (w : World) (g o i : Nat) (x : Ent) : Prop where
  c0 : w.cell? ⟨g, o + i * 8, none⟩ = some (.int .i64 x.key.k)
  c1 : w.cell? ⟨g, o + i * 8 + 1, none⟩ = some (.int .i64 x.key.n)
  c2 : w.cell? ⟨g, o + i * 8 + 2, none⟩ = some (.string x.key.t)
  c3 : w.cell? ⟨g, o + i * 8 + 3, none⟩ = some (.int .i64 x.val.k)
  c4 : w.cell? ⟨g, o + i * 8 + 4, none⟩ = some (.int .i64 x.val.n)
  c5 : w.cell? ⟨g, o + i * 8 + 5, none⟩ = some (.string x.val.t)
  c6 : w.cell? ⟨g, o + i * 8 + 6, none⟩ = some (.int .i64 x.ser)
  c7 : w.cell? ⟨g, o + i * 8 + 7, none⟩ = some (.bool x.gone)
theorem EntAt.keeps {w w1 : World} {S : Nat → Prop} {g o i : Nat} {x : Ent} (h : EntAt w g o i x) (hk : Keeps S w w1) (hn : ¬ S g) : EntAt w1 g o i x :=
  ⟨hk.cell h.c0 hn, hk.cell h.c1 hn, hk.cell h.c2 hn, hk.cell h.c3 hn, hk.cell h.c4 hn, hk.cell h.c5 hn, hk.cell h.c6 hn, hk.cell h.c7 hn⟩
def Ents (w : World) (A : Option Addr) (E : List Ent) : Prop := ∀ i x, E[i]? = some x → ∃ g o, A = some ⟨g, o, none⟩ ∧ EntAt w g o i x
theorem Ents.keeps {w w1 : World} {S : Nat → Prop} {A : Option Addr} {E : List Ent} (h : Ents w A E) (hk : Keeps S w w1) (hn : 0 < E.length → ∀ b o, A = some ⟨b, o, none⟩ → ¬ S b) : Ents w1 A E := fun i x hi => by
  obtain ⟨b, o, rfl, h1⟩ := h i x hi
  exact ⟨b, o, rfl, h1.keeps hk (hn (by have := (List.getElem?_eq_some_iff.1 hi).1; omega) b o rfl)⟩
theorem Ents.own {w : World} {base e n c : Nat} {A : Option Addr} {E : List Ent} (h : w.ownsRow base e 8 (.slice A n c) n (flatE E)) : Ents w A E := fun i x hi => by
  have hil := (List.getElem?_eq_some_iff.1 hi).1
  rcases h.2 with ⟨h1, h2⟩ | ⟨g, cap, cur, h1, _⟩
  · have := h.1
    rw [flatE_length] at this
    omega
  · simp at h1
    obtain ⟨rfl, rfl⟩ := h1
    have hc := h.cells (g := g) rfl
    have k : ∀ j v, j < 8 → x.cells[j]? = some v → w.cell? ⟨g, 0 + (i * 8 + j), none⟩ = some v := fun j v hj hv => by
      have := hc (i * 8 + j) v ((flatE_get E i x hi j hj).trans hv)
      rwa [add_at3] at this
    exact ⟨g, 0, rfl, ⟨k 0 _ (by omega) rfl, k 1 _ (by omega) rfl, k 2 _ (by omega) rfl, k 3 _ (by omega) rfl, k 4 _ (by omega) rfl, k 5 _ (by omega) rfl, k 6 _ (by omega) rfl, k 7 _ (by omega) rfl⟩⟩

/-- A table as it lies: entries, slots, how many are live, how many slots are used, the last serial. -/
structure Tb where
  E : List Ent
  S : List Int
  live : Int
  used : Int
  ser : Int
structure TabAt (w : World) (F : Nat → Prop) (b : Nat) (ve vs : Value) (t : Tb) : Prop where
  blk : w.heap[b]? = some (.cells #[ve, vs, .int .i64 t.live, .int .i64 t.used, .int .i64 t.ser] 110 (0, 0))
  here : F b
  ents : Row w F 114 8 ve t.E.length (flatE t.E)
  slots : Row w F 3 1 vs t.S.length (intCells t.S)
  inw : In F w
def IsTab (w : World) (F : Nat → Prop) (b : Nat) (t : Tb) : Prop := ∃ ve vs, TabAt w F b ve vs t
theorem TabAt.keeps {w w1 : World} {F S : Nat → Prop} {b : Nat} {ve vs : Value} {t : Tb} (h : TabAt w F b ve vs t) (hk : Keeps S w w1) (hn : Apart F S) : TabAt w1 F b ve vs t :=
  ⟨hk.heap h.blk (hn _ h.here), h.here, h.ents.keeps hk hn, h.slots.keeps hk hn, h.inw.keeps hk⟩
theorem TabAt.none {w w1 : World} {F : Nat → Prop} {b : Nat} {ve vs : Value} {t : Tb} (h : TabAt w F b ve vs t) (hk : Keeps (fun _ => False) w w1) : TabAt w1 F b ve vs t := h.keeps hk (Apart.no _)
theorem IsTab.keeps {w w1 : World} {F S : Nat → Prop} {b : Nat} {t : Tb} (h : IsTab w F b t) (hk : Keeps S w w1) (hn : Apart F S) : IsTab w1 F b t := by
  obtain ⟨ve, vs, h⟩ := h
  exact ⟨ve, vs, h.keeps hk hn⟩
theorem IsTab.none {w w1 : World} {F : Nat → Prop} {b : Nat} {t : Tb} (h : IsTab w F b t) (hk : Keeps (fun _ => False) w w1) : IsTab w1 F b t := h.keeps hk (Apart.no _)
theorem IsTab.inw {w : World} {F : Nat → Prop} {b : Nat} {t : Tb} (h : IsTab w F b t) : In F w := by obtain ⟨_, _, h⟩ := h; exact h.inw

/-- The slot of a key, and whether it is there: m steps are left, the d-th slot is looked at; f: the first slot where it could be. -/
def probe (E : List Ent) (S : List Int) (key : V) (h : Nat) : Nat → Nat → Option Nat → Nat × Bool
  | 0, _, f => (f.getD 0, false)
  | m + 1, d, f =>
    if S.getD ((h + d) % S.length) 0 = (0 : Int) then (f.getD ((h + d) % S.length), false)
    else if S.getD ((h + d) % S.length) 0 = (-1 : Int) then probe E S key h m (d + 1) (some (f.getD ((h + d) % S.length)))
    else if (E.map (·.key))[(S.getD ((h + d) % S.length) 0).toNat - 1]? = some key then ((h + d) % S.length, true)
    else probe E S key h m (d + 1) f
def keyHash (key : V) : Nat := key.hash.toNat / 2
def findT (t : Tb) (key : V) : Nat × Bool := if t.S.length = 0 then (0, false) else probe t.E t.S key (keyHash key) t.S.length 0 none
/-- What the code asks of a table, that it may not panic. -/
structure Tb.safe (t : Tb) : Prop where
  two : t.S.length = 0 ∨ ∃ m : Nat, m ≤ 30 ∧ t.S.length = 2 ^ m
  inE : ∀ (i : Nat) (s : Int), t.S[i]? = some s → s = 0 ∨ s = -1 ∨ (1 ≤ s ∧ s ≤ (t.E.length : Int))
  many : t.E.length ≤ 1073741824

def first : Option Nat → Int
  | none => -1
  | some x => x
theorem probe_step {E : List Ent} {S : List Int} {key : V} {h m d j : Nat} {f : Option Nat} (hj : (h + d) % S.length = j) : probe E S key h (m + 1) d f =
    if S.getD j 0 = (0 : Int) then (f.getD j, false) else if S.getD j 0 = (-1 : Int) then probe E S key h m (d + 1) (some (f.getD j)) else if (E.map (·.key))[(S.getD j 0).toNat - 1]? = some key then (j, true) else probe E S key h m (d + 1) f := by
  rw [probe, hj]
theorem mask_nat (x n m : Nat) (hm : m ≤ 30) (hn : n = 2 ^ m) (hx : x < 9223372036854775808) : bits .and .i64 (x : Int) ((n : Int) - 1) = ((x % n : Nat) : Int) := by
  have hpos : 1 ≤ n := by rw [hn]; exact Nat.one_le_two_pow
  have hle : n ≤ 1073741824 := by rw [hn]; exact Nat.pow_le_pow_right (by decide) hm
  have e : (n : Int) - 1 = ((n - 1 : Nat) : Int) := by omega
  have h1 : (BitVec.ofInt 64 (x : Int)).toNat = x := by rw [BitVec.ofInt_natCast, BitVec.toNat_ofNat]; exact Nat.mod_eq_of_lt (by omega)
  have h2 : (BitVec.ofInt 64 ((n - 1 : Nat) : Int)).toNat = n - 1 := by rw [BitVec.ofInt_natCast, BitVec.toNat_ofNat]; exact Nat.mod_eq_of_lt (by omega)
  have h3 : x % n < n := Nat.mod_lt _ hpos
  rw [e]
  show IntKind.i64.wrap ((BitVec.ofInt 64 (x : Int) &&& BitVec.ofInt 64 ((n - 1 : Nat) : Int)).toNat : Int) = _
  rw [BitVec.toNat_and, h1, h2]
  conv => lhs; rw [hn]
  rw [Nat.and_two_pow_sub_one_eq_mod, ← hn, IntKind.wrap_i64]
  omega
theorem key_none {E : List Ent} {j : Nat} {key : V} {x : Ent} (hx : E[j]? = some x) (h : ¬ x.key = key) : ¬ (E.map (·.key))[j]? = some key := by
  rw [List.getElem?_map, hx]; simpa using h
theorem key_some {E : List Ent} {j : Nat} {key : V} {x : Ent} (hx : E[j]? = some x) (h : x.key = key) : (E.map (·.key))[j]? = some key := by
  rw [List.getElem?_map, hx]; simpa using h
theorem V.ne_cases' {a b : V} (h : ¬ b = a) : ¬ a.k = b.k ∨ (a.k = b.k ∧ ¬ a.n = b.n) ∨ (a.k = b.k ∧ a.n = b.n ∧ ¬ a.t.toList = b.t.toList) := by
  by_cases h1 : a.k = b.k
  · by_cases h2 : a.n = b.n
    · refine .inr (.inr ⟨h1, h2, fun h3 => h ?_⟩)
      have h4 : a.t = b.t := by
        rw [Lib.toList_data, Lib.toList_data] at h3
        exact ByteArray.ext (Array.ext' h3)
      cases a; cases b; simp_all
    · exact .inr (.inl ⟨h1, h2⟩)
  · exact .inl h1

set_option maxHeartbeats 16000000 in
theorem table_find (w : World) (F : Nat → Prop) (b : Nat) (t : Tb) (key : V) (h : IsTab w F b t) (hs : t.safe) (hk : key.t.size ≤ 140737488351232) :
    Calls Try.prog 89 #[.pointer (some ⟨b, 0, none⟩), key.val] w fun e w' => e = .returned (.tuple #[.int .i64 (findT t key).1, .bool (findT t key).2]) ∧ Keeps (fun _ => False) w w' := by
  obtain ⟨ve, vs, hT⟩ := h
  obtain ⟨Ae, ce, rfl⟩ := hT.ents.form
  obtain ⟨As, cs, rfl⟩ := hT.slots.form
  obtain ⟨E, S, live, used, ser⟩ := t
  have HT := hidden hT
  have HS := hidden hs
  have hb := blk_lt hT.blk
  have b0 := blk_cell hT.blk 0
  have b1 := blk_cell hT.blk 1
  simp only [List.getElem?_toArray, List.getElem?_cons_zero, List.getElem?_cons_succ] at b0 b1
  have hh := key.hash_in
  have hash := hidden (fun W => value_Hash key W hk)
  have hen := hs.many
  simp only at hen
  clear hT hs hk
  refine post_gen fun R hR => ?_
  by_cases h0 : S.length = 0
  · have hfe : findT ⟨E, S, live, used, ser⟩ key = (0, false) := if_pos h0
    rw [hfe] at hR
    rw [h0] at b1
    clear hh hash
    unfold V.val
    go_enter Try.func89, Try.ntmps89
    go_wp2_with fail
    exact hR.out _ _ ⟨rfl, (Keeps.refl _ _).alloc _⟩
  · have hfe : findT ⟨E, S, live, used, ser⟩ key = probe E S key (keyHash key) S.length 0 none := if_neg h0
    rw [hfe] at hR
    clear hfe
    obtain ⟨m, hm, hn⟩ := HS.out.two.resolve_left h0
    simp only at hn
    have hn2 : S.length ≤ 1073741824 := by rw [hn]; exact Nat.pow_le_pow_right (by decide) hm
    have hpos : 0 < S.length := by omega
    obtain ⟨H, hH⟩ : ∃ H : Nat, key.hash = (H : Int) := ⟨key.hash.toNat, by omega⟩
    have hH2 : keyHash key = H / 2 := by rw [keyHash, hH]; rfl
    have hH3 : H < 18446744073709551616 := by omega
    rw [hH2] at hR
    rw [hH] at hash
    have hw0 : IntKind.i64.wrap ((H : Int) / 2) = ((H / 2 : Nat) : Int) := by rw [IntKind.wrap_i64]; omega
    have hw1 := mask_nat (H / 2) S.length m hm hn (by omega)
    have hw2 : IntKind.i64.wrap ((S.length : Int) - 1) = (S.length : Int) - 1 := by rw [IntKind.wrap_i64]; omega
    have hz0 : ((S.length : Int) == 0) = false := by rw [beq_eq_false_iff_ne]; omega
    have hz1 : ¬ (S.length : Int) = 0 := by omega
    have hz2 : ¬ S = [] := fun e => h0 (by rw [e]; rfl)
    have HN := hidden hn
    clear hH hH2 hh hn
    have HK0 := hidden (show Keeps (fun _ => False) w (w.alloc (.cells #[.int .i64 key.k, .int .i64 key.n, .string key.t] 30)) from (Keeps.refl _ w).alloc _)
    have VK0 := hidden (IsVar.new w key)
    unfold V.val at *
    go_enter Try.func89, Try.ntmps89
    go_wp2_with fail
    refine (hash.out _).mono ?_
    rintro e w1 ⟨rfl, hK⟩
    have VK1 := hidden (show IsVar w1 w.heap.size key from hK.heap VK0.out (fun h => h))
    have HK1 := hidden (HK0.out.trans hK (fun _ _ h => h))
    clear hK hash
    have TT1 := hidden (HT.out.none HK1.out)
    have c0 := blk_cell TT1.out.blk 0
    have c1 := blk_cell TT1.out.blk 1
    simp only [List.getElem?_toArray, List.getElem?_cons_zero, List.getElem?_cons_succ] at c0 c1
    obtain ⟨i0, hi0⟩ : ∃ i0 : Nat, i0 = (H / 2 + 0) % S.length := ⟨_, rfl⟩
    have HI0 := hidden hi0
    have hi1 : i0 < S.length := by rw [hi0]; exact Nat.mod_lt _ hpos
    have hw3 : bits .and .i64 ((H : Int) / 2) ((S.length : Int) - 1) = (i0 : Int) := by rw [hi0, Nat.add_zero, ← hw1, Int.natCast_ediv]; rfl
    clear hi0 hw1
    have NX := hidden (fun (i : Nat) (hi : i < S.length) => mask_nat (i + 1) S.length m hm HN.out (by omega))
    go_wp2_with fail
    clear hw3 hw0 c0 c1 b0 b1
    go_loopw [7, 8, 9] (fun f i n wr => ∃ (d : Nat) (fo : Option Nat) (j : Nat), d ≤ S.length ∧ Hid (j = (H / 2 + d) % S.length) ∧ j < S.length ∧ i = .int .i64 j ∧ n = .int .i64 d ∧ f = .int .i64 (first fo) ∧ Hid (probe E S key (H / 2) S.length 0 none = probe E S key (H / 2) (S.length - d) d fo) ∧ Keeps (fun _ => False) w1 wr) (fun _ _ n _ => S.length - (intOf n).toNat)
    case atStart => exact ⟨0, none, i0, Nat.zero_le _, HI0, hi1, rfl, rfl, rfl, hidden rfl, Keeps.refl _ _⟩
    case round =>
      obtain ⟨d, fo, j, hd, HJ, hj, rfl, rfl, rfl, HP, hK⟩ := hrel
      have HKr := hidden hK
      have TTr := hidden (TT1.out.none hK)
      have c0 := blk_cell TTr.out.blk 0
      have c1 := blk_cell TTr.out.blk 1
      simp only [List.getElem?_toArray, List.getElem?_cons_zero, List.getElem?_cons_succ] at c0 c1
      have hbr := blk_lt TTr.out.blk
      by_cases hlt : d < S.length
      · obtain ⟨gs, os, rfl, hs0⟩ := Ints.own TTr.out.slots.1 j S[j] (List.getElem?_eq_getElem hj)
        have hgs := World.block_lt_of_cell? wr _ hs0
        have hsj := HS.out.inE j S[j] (List.getElem?_eq_getElem hj)
        simp only at hsj
        have HG := hidden (show S.getD j 0 = S[j] by rw [List.getD_eq_getElem?_getD, List.getElem?_eq_getElem hj]; rfl)
        have HST := hidden (probe_step (E := E) (S := S) (key := key) (h := H / 2) (m := S.length - d - 1) (d := d) (f := fo) HJ.out.symm)
        have hnx := NX.out j hj
        obtain ⟨j2, hj2⟩ : ∃ j2 : Nat, j2 = (j + 1) % S.length := ⟨_, rfl⟩
        rw [← hj2] at hnx
        have HJ2 := hidden (show j2 = (H / 2 + (d + 1)) % S.length by rw [hj2, HJ.out, Nat.mod_add_mod, Nat.add_assoc])
        have hj3 : j2 < S.length := by rw [hj2]; exact Nat.mod_lt _ hpos
        have hnx2 : bits .and .i64 ((j : Int) + 1) ((S.length : Int) - 1) = (j2 : Int) := by rw [← hnx]; rfl
        clear hnx hj2 hK
        have hsd : S.length - d = S.length - d - 1 + 1 := by omega
        have hp2 := HP.out
        rw [hsd, HST.out, HG.out] at hp2
        have HP2 := hidden hp2
        clear hsd hp2 HST HP
        generalize S[j] = s at *
        have hmd : S.length - d - 1 = S.length - (d + 1) := by omega
        rw [hmd] at HP2
        clear hmd HG
        have hdw : IntKind.i64.wrap ((d : Int) + 1) = (d : Int) + 1 := by rw [IntKind.wrap_i64]; omega
        have hjw : IntKind.i64.wrap ((j : Int) + 1) = (j : Int) + 1 := by rw [IntKind.wrap_i64]; omega
        rcases hsj with rfl | rfl | ⟨hs1, hs2⟩
        · have hp3 := HP2.out
          rw [if_pos rfl] at hp3
          have HP3 := hidden hp3
          clear hp3 HP2
          cases fo with
          | none =>
            simp only [first]
            go_wp2_with fail
            exact hR.out _ _ ⟨by rw [HP3.out]; rfl, HK1.out.trans HKr.out (fun _ _ h => h)⟩
          | some x =>
            simp only [first]
            have hx : ¬ ((x : Int) < 0) := by omega
            go_wp2_with fail
            exact hR.out _ _ ⟨by rw [HP3.out]; rfl, HK1.out.trans HKr.out (fun _ _ h => h)⟩
        · have hp3 := HP2.out
          rw [if_neg (by decide), if_pos rfl] at hp3
          have HP3 := hidden hp3
          clear hp3 HP2
          cases fo with
          | none =>
            simp only [first]
            go_wp2_with fail
            go_roundw
            case rel => exact ⟨d + 1, some j, j2, hlt, HJ2, hj3, by go_num, by go_num, rfl, HP3, HKr.out⟩
            case measure => simp [intOf]; omega
          | some x =>
            simp only [first]
            have hx : ¬ ((x : Int) < 0) := by omega
            go_wp2_with fail
            go_roundw
            case rel => exact ⟨d + 1, some x, j2, hlt, HJ2, hj3, by go_num, by go_num, rfl, HP3, HKr.out⟩
            case measure => simp [intOf]; omega
        · obtain ⟨q, rfl⟩ : ∃ q : Nat, s = (q : Int) + 1 := ⟨(s - 1).toNat, by omega⟩
          have hq : q < E.length := by omega
          obtain ⟨ge, oe, rfl, hea⟩ := Ents.own TTr.out.ents.1 q E[q] (List.getElem?_eq_getElem hq)
          obtain ⟨e0, e1, e2, -, -, -, -, -⟩ := hea
          have hge := World.block_lt_of_cell? wr _ e0
          obtain ⟨k0, k1, k2, -⟩ := (VK1.out.keeps HKr.out (fun h => h)).cells
          have hvk := blk_lt (VK1.out.keeps HKr.out (fun h => h))
          have hq1 : IntKind.i64.wrap ((q : Int) + 1 - 1) = (q : Int) := by rw [IntKind.wrap_i64]; omega
          have hq2 : ((q : Int) + 1).toNat - 1 = q := by omega
          have hp3 := HP2.out
          rw [if_neg (by omega), if_neg (by omega), hq2] at hp3
          have HP3 := hidden hp3
          have HX := hidden (show E[q]? = some E[q] from List.getElem?_eq_getElem hq)
          clear hp3 HP2 hq2
          have hb1 : ((q : Int) + 1 == 0) = false := by rw [beq_eq_false_iff_ne]; omega
          have hb2 : ((q : Int) + 1 == -1) = false := by rw [beq_eq_false_iff_ne]; omega
          generalize E[q] = x at *
          by_cases hx : x.key = key
          · have hp4 := HP3.out
            rw [if_pos (key_some HX.out hx)] at hp4
            have HP4 := hidden hp4
            rw [hx] at e0 e1 e2
            clear hp4 HP3 hx
            go_wp2_with fail
            go_quiet (fail)
            go_wp2_with fail
            exact hR.out _ _ ⟨by rw [HP4.out]; rfl, (HK1.out.trans HKr.out (fun _ _ h => h)).drewN _⟩
          · have hp4 := HP3.out
            rw [if_neg (key_none HX.out hx)] at hp4
            have HP4 := hidden hp4
            clear hp4 HP3
            rcases V.ne_cases' hx with d0 | ⟨d0, d1⟩ | ⟨d0, d1, d2⟩
            all_goals
              clear hx
              try (rw [← d0] at e0; clear d0)
              try (rw [← d1] at e1; clear d1)
              try have d3 := fun e => d0 (Eq.symm e)
              try have d4 := fun e => d1 (Eq.symm e)
              try have d5 := fun e => d2 (Eq.symm e)
              try have d6 := beq_eq_false_iff_ne.2 d4
              try have d7 := beq_eq_false_iff_ne.2 d5
              try have d8 : (x.key.t == key.t) = false := by rw [beq_eq_false_iff_ne]; intro e; exact d5 (by rw [e])
              try have d9 : ¬ x.key.t = key.t := by intro e; exact d5 (by rw [e])
              have hq4 : (q : Int) < (E.length : Int) := by omega
              have hq5 : (0 : Int) ≤ (q : Int) := by omega
              go_wp2_with fail
              go_quiet (fail)
              go_wp2_with fail
              go_roundw
              case rel => exact ⟨d + 1, fo, j2, hlt, HJ2, hj3, by go_num, by go_num, rfl, HP4, HKr.out.drewN _⟩
              case measure => simp [intOf]; omega
      · obtain rfl : d = S.length := by omega
        have hp2 := HP.out
        rw [Nat.sub_self, probe] at hp2
        have HP2 := hidden hp2
        clear hp2 HP
        cases fo with
        | none =>
          simp only [first]
          go_wp2_with fail
          exact hR.out _ _ ⟨by rw [HP2.out]; rfl, HK1.out.trans HKr.out (fun _ _ h => h)⟩
        | some x =>
          simp only [first]
          have hx : ¬ ((x : Int) < 0) := by omega
          have hx2 : max (x : Int) 0 = x := by omega
          go_wp2_with fail
          exact hR.out _ _ ⟨by rw [HP2.out]; rfl, HK1.out.trans HKr.out (fun _ _ h => h)⟩
end Go.Proofs.Ytpaefeknbpfpmaa
