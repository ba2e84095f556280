/- Texts that belong together: TabV Heap HeapB HeapC HeapD HeapE HeapF. -/
import Derived.Test.YtmefdniocgcckaaZTabU
import Derived.Test.YtmefdniocgcckaaGrpA
import Derived.Deep.RegionHeld3
set_option linter.unusedSimpArgs false
set_option linter.unusedVariables false
/- Layer 5: tables: Keys, Vals, Cells. -/
namespace Go.Proofs.Ytmefdniocgcckaa
open Go.RowKit
set_option maxRecDepth 100000
section
variable {w : World} {F : Nat → Prop} {b : Nat} {L : List Ent} {s : Int}
def cellsT (L : List Ent) : List Int := cellNums (L.map Ent.key) ++ cellNums (L.map Ent.val)
theorem cellNums_le (xs : List V) : (cellNums xs).length ≤ xs.length := by
  unfold cellNums
  first | exact List.length_filterMap_le _ _ | (rw [List.length_map]; exact List.length_filter_le _ _)
theorem intCells_append (a b : List Int) : intCells (a ++ b) = intCells a ++ intCells b := by simp [intCells]
theorem int_src {w : World} {F : Nat → Prop} {A : Option Addr} {n c : Nat} {xs : List Int} (h : Row w F 3 1 (.slice A n c) n (intCells xs)) : Src Try.prog 1 64 (.slice A n c) n (intCells xs) w := by
  rcases h.1.2 with ⟨h1, h2⟩ | ⟨g, cap, cur, h1, _⟩
  · simp at h1
    obtain ⟨rfl, rfl, rfl⟩ := h1
    obtain rfl : xs = [] := List.eq_nil_of_length_eq_zero (by simpa [intCells] using h.1.1)
    exact Src.ofNil w Try.underlying64 0
  · simp at h1
    obtain ⟨rfl, rfl⟩ := h1
    refine Src.ofSlice w Try.underlying64 _ _ _ _ h.1.1 (fun j u hj => ?_) (fun u hu => by simp [intCells] at hu; obtain ⟨a, _, rfl⟩ := hu; rfl)
    exact h.1.cells (g := g) rfl j u hj
end
end Go.Proofs.Ytmefdniocgcckaa
/- Layer 6: the heap: how cells and the heap lie. -/
namespace Go.Proofs.Ytmefdniocgcckaa
open Go.RowKit
set_option maxRecDepth 100000

/-- A cell: its kind, values, list, table (where it lies, entries, last serial), numbers, text. -/
structure Cl where
  kind : Int
  vals : List V
  list : Option (Nat × List V)
  tab : Option (Nat × List Ent × Int)
  nums : List Int
  text : ByteArray
structure Cl.small (c : Cl) : Prop where
  vals : c.vals.length ≤ 1048576
  nums : c.nums.length ≤ 1048576
  list : ∀ b xs, c.list = some (b, xs) → xs.length ≤ 1048576
  tab : ∀ b L s, c.tab = some (b, L, s) → s < 1073741000
def ListOf (w : World) (F : Nat → Prop) (p : Option Addr) : Option (Nat × List V) → Prop
  | none => p = none
  | some (b, xs) => p = some ⟨b, 0, none⟩ ∧ IsList w F b xs
def TabOf (w : World) (F : Nat → Prop) (p : Option Addr) : Option (Nat × List Ent × Int) → Prop
  | none => p = none
  | some (b, L, s) => p = some ⟨b, 0, none⟩ ∧ IsT w F b L s
theorem ListOf.keeps {w w1 : World} {F S : Nat → Prop} {p : Option Addr} {l : Option (Nat × List V)} (h : ListOf w F p l) (hk : Keeps S w w1) (hn : Apart F S) : ListOf w1 F p l := by
  cases l with
  | none => exact h
  | some xs => obtain ⟨e, h⟩ := h; exact ⟨e, h.keeps hk hn⟩
theorem TabOf.keeps {w w1 : World} {F S : Nat → Prop} {p : Option Addr} {l : Option (Nat × List Ent × Int)} (h : TabOf w F p l) (hk : Keeps S w w1) (hn : Apart F S) : TabOf w1 F p l := by
  cases l with
  | none => exact h
  | some xs => obtain ⟨e, h⟩ := h; exact ⟨e, h.keeps hk hn⟩
/-- A cell as it lies: G: the footprints of its values, list, table, numbers. -/
structure CellX (w : World) (p : Nat) (F : Nat → Prop) (c : Cl) (G : Nat → Nat → Prop) (vv vn : Value) (lp tp : Option Addr) : Prop where
  blk : w.heap[p]? = some (.cells #[.int .i64 c.kind, vv, .pointer lp, .pointer tp, vn, .string c.text] 39 (0, 0))
  here : F p
  sub : ∀ i k, G i k → F k
  off : ∀ i, ¬ G i p
  ap : ∀ i j, i ≠ j → Apart (G i) (G j)
  vals : Row w (G 0) 29 3 vv c.vals.length (flat c.vals)
  list : ListOf w (G 1) lp c.list
  tab : TabOf w (G 2) tp c.tab
  nums : Row w (G 3) 2 1 vn c.nums.length (intCells c.nums)
  inw : In F w
  small : c.small
def IsCell (w : World) (p : Nat) (F : Nat → Prop) (c : Cl) : Prop := ∃ G vv vn lp tp, CellX w p F c G vv vn lp tp
theorem CellX.keeps {w w1 : World} {p : Nat} {F S : Nat → Prop} {c : Cl} {G : Nat → Nat → Prop} {vv vn : Value} {lp tp : Option Addr} (h : CellX w p F c G vv vn lp tp) (hk : Keeps S w w1) (hn : Apart F S) : CellX w1 p F c G vv vn lp tp :=
  have ha : ∀ i, Apart (G i) S := fun i k hg hs => hn k (h.sub i k hg) hs
  ⟨hk.heap h.blk (hn p h.here), h.here, h.sub, h.off, h.ap, h.vals.keeps hk (ha 0), h.list.keeps hk (ha 1), h.tab.keeps hk (ha 2), h.nums.keeps hk (ha 3), h.inw.keeps hk, h.small⟩
theorem IsCell.keeps {w w1 : World} {p : Nat} {F S : Nat → Prop} {c : Cl} (h : IsCell w p F c) (hk : Keeps S w w1) (hn : Apart F S) : IsCell w1 p F c := by
  obtain ⟨G, vv, vn, lp, tp, h⟩ := h
  exact ⟨G, vv, vn, lp, tp, h.keeps hk hn⟩
theorem IsCell.small {w : World} {p : Nat} {F : Nat → Prop} {c : Cl} (h : IsCell w p F c) : c.small := by
  obtain ⟨G, vv, vn, lp, tp, h⟩ := h
  exact h.small
theorem IsCell.inw {w : World} {p : Nat} {F : Nat → Prop} {c : Cl} (h : IsCell w p F c) : In F w := by
  obtain ⟨G, vv, vn, lp, tp, h⟩ := h
  exact h.inw
/-- One footprint of a family becomes another. -/
noncomputable def famSet (G : Nat → Nat → Prop) (i : Nat) (F' : Nat → Prop) : Nat → Nat → Prop := fun j => if j = i then F' else G j
theorem famSet_at (G : Nat → Nat → Prop) (i : Nat) (F' : Nat → Prop) : famSet G i F' i = F' := if_pos rfl
theorem famSet_ne (G : Nat → Nat → Prop) {i j : Nat} (F' : Nat → Prop) (h : j ≠ i) : famSet G i F' j = G j := if_neg h
theorem famSet_ap {w : World} {G : Nat → Nat → Prop} {i : Nat} {F' : Nat → Prop} (h : ∀ a b, a ≠ b → Apart (G a) (G b)) (hf : Fresh (G i) F' w) (hin : ∀ j, In (G j) w) : ∀ a b, a ≠ b → Apart (famSet G i F' a) (famSet G i F' b) := fun a b hab => by
  by_cases ha : a = i
  · subst ha
    rw [famSet_at, famSet_ne G F' (fun e => hab e.symm)]
    exact (h a b hab).fresh hf (hin b)
  · by_cases hb : b = i
    · subst hb
      rw [famSet_at, famSet_ne G F' ha]
      exact ((h b a (fun e => hab e.symm)).fresh hf (hin a)).symm
    · rw [famSet_ne G F' ha, famSet_ne G F' hb]
      exact h a b hab
/-- What a cell's list becomes. -/
theorem CellX.setList {w w1 : World} {p b : Nat} {F F' : Nat → Prop} {c : Cl} {G : Nat → Nat → Prop} {vv vn : Value} {tp : Option Addr} {xs ys : List V} (h : CellX w p F c G vv vn (some ⟨b, 0, none⟩) tp) (hk : Keeps (G 1) w w1) (hl : IsList w1 F' b ys) (hf : Fresh (G 1) F' w) (hy : ys.length ≤ 1048576) :
    IsCell w1 p (fun k => F k ∨ F' k) { c with list := some (b, ys) } ∧ Keeps F w w1 ∧ Fresh F (fun k => F k ∨ F' k) w := by
  have hin : ∀ j, In (G j) w := fun j k hk => h.inw k (h.sub j k hk)
  have hap := famSet_ap h.ap hf hin
  refine ⟨⟨famSet G 1 F', vv, vn, some ⟨b, 0, none⟩, tp, hk.heap h.blk (h.off 1), .inl h.here, fun i k hik => ?_, fun i hi => ?_, hap, ?_, ?_, ?_, ?_, fun k hk2 => ?_, ⟨h.small.vals, h.small.nums, fun b xs e => by cases e; exact hy, h.small.tab⟩⟩, hk.mono (fun k _ hg => h.sub 1 k hg), fun k hk2 => ?_⟩
  · by_cases e : i = 1
    · subst e; rw [famSet_at] at hik; exact .inr hik
    · rw [famSet_ne G F' e] at hik; exact .inl (h.sub i k hik)
  · by_cases e : i = 1
    · subst e
      rw [famSet_at] at hi
      rcases hf p hi with h1 | h1
      · exact h.off 1 h1
      · have := h.inw p h.here; omega
    · rw [famSet_ne G F' e] at hi; exact h.off i hi
  · rw [famSet_ne G F' (by decide)]; exact h.vals.keeps hk (h.ap 0 1 (by decide))
  · rw [famSet_at]; exact ⟨rfl, hl⟩
  · rw [famSet_ne G F' (by decide)]; exact h.tab.keeps hk (h.ap 2 1 (by decide))
  · rw [famSet_ne G F' (by decide)]; exact h.nums.keeps hk (h.ap 3 1 (by decide))
  · rcases hk2 with hk2 | hk2
    · exact Nat.lt_of_lt_of_le (h.inw k hk2) hk.size
    · exact hl.inw k hk2
  · rcases hk2 with hk2 | hk2
    · exact .inl hk2
    · exact (hf k hk2).imp (h.sub 1 k) id
/-- What a cell's table becomes. -/
theorem CellX.setTab {w w1 : World} {p b : Nat} {F F' : Nat → Prop} {c : Cl} {G : Nat → Nat → Prop} {vv vn : Value} {lp : Option Addr} {L : List Ent} {s : Int} (h : CellX w p F c G vv vn lp (some ⟨b, 0, none⟩)) (hk : Keeps (G 2) w w1) (hl : IsT w1 F' b L s) (hf : Fresh (G 2) F' w) (hs : s < 1073741000) :
    IsCell w1 p (fun k => F k ∨ F' k) { c with tab := some (b, L, s) } ∧ Keeps F w w1 ∧ Fresh F (fun k => F k ∨ F' k) w := by
  have hin : ∀ j, In (G j) w := fun j k hk => h.inw k (h.sub j k hk)
  have hap := famSet_ap h.ap hf hin
  refine ⟨⟨famSet G 2 F', vv, vn, lp, some ⟨b, 0, none⟩, hk.heap h.blk (h.off 2), .inl h.here, fun i k hik => ?_, fun i hi => ?_, hap, ?_, ?_, ?_, ?_, fun k hk2 => ?_, ⟨h.small.vals, h.small.nums, h.small.list, fun b' L s e => by cases e; exact hs⟩⟩, hk.mono (fun k _ hg => h.sub 2 k hg), fun k hk2 => ?_⟩
  · by_cases e : i = 2
    · subst e; rw [famSet_at] at hik; exact .inr hik
    · rw [famSet_ne G F' e] at hik; exact .inl (h.sub i k hik)
  · by_cases e : i = 2
    · subst e
      rw [famSet_at] at hi
      rcases hf p hi with h1 | h1
      · exact h.off 2 h1
      · have := h.inw p h.here; omega
    · rw [famSet_ne G F' e] at hi; exact h.off i hi
  · rw [famSet_ne G F' (by decide)]; exact h.vals.keeps hk (h.ap 0 2 (by decide))
  · rw [famSet_ne G F' (by decide)]; exact h.list.keeps hk (h.ap 1 2 (by decide))
  · rw [famSet_at]; exact ⟨rfl, hl⟩
  · rw [famSet_ne G F' (by decide)]; exact h.nums.keeps hk (h.ap 3 2 (by decide))
  · rcases hk2 with hk2 | hk2
    · exact Nat.lt_of_lt_of_le (h.inw k hk2) hk.size
    · exact hl.inw k hk2
  · rcases hk2 with hk2 | hk2
    · exact .inl hk2
    · exact (hf k hk2).imp (h.sub 2 k) id

/-- The heap's numbers: free places, how many cells there are, may be, were freed; how often it was collected. -/
structure HSt where
  fr : List Int
  live : Int
  limit : Int
  freed : Int
  runs : Int
def ptr : Option (Nat × Cl) → Value
  | none => .pointer none
  | some (p, _) => .pointer (some ⟨p, 0, none⟩)
structure HeapX (w : World) (F : Nat → Prop) (hb : Nat) (H : List (Option (Nat × Cl))) (s : HSt) (Fam : Nat → Nat → Prop) (vc vf : Value) : Prop where
  blk : w.heap[hb]? = some (.cells #[vc, vf, .int .i64 s.live, .int .i64 s.limit, .int .i64 s.freed, .int .i64 s.runs] 66 (0, 0))
  here : Fam 0 hb
  sub : ∀ i k, Fam i k → F k
  ap : ∀ i j, i ≠ j → Apart (Fam i) (Fam j)
  cells : Row w (Fam 1) 69 1 vc H.length (H.map ptr)
  free : Row w (Fam 2) 3 1 vf s.fr.length (intCells s.fr)
  each : ∀ i p c, H[i]? = some (some (p, c)) → IsCell w p (Fam (i + 3)) c
  inw : In F w
def IsHeap (w : World) (F : Nat → Prop) (hb : Nat) (H : List (Option (Nat × Cl))) (s : HSt) : Prop := ∃ Fam vc vf, HeapX w F hb H s Fam vc vf
section
variable {w w1 : World} {F S : Nat → Prop} {hb : Nat} {H : List (Option (Nat × Cl))} {s : HSt} {Fam : Nat → Nat → Prop} {vc vf : Value}
theorem HeapX.keeps (h : HeapX w F hb H s Fam vc vf) (hk : Keeps S w w1) (hn : Apart F S) : HeapX w1 F hb H s Fam vc vf :=
  have ha : ∀ i, Apart (Fam i) S := fun i k hg hs => hn k (h.sub i k hg) hs
  ⟨hk.heap h.blk (ha 0 hb h.here), h.here, h.sub, h.ap, h.cells.keeps hk (ha 1), h.free.keeps hk (ha 2), fun i p c e => (h.each i p c e).keeps hk (ha _), h.inw.keeps hk⟩
theorem IsHeap.keeps (h : IsHeap w F hb H s) (hk : Keeps S w w1) (hn : Apart F S) : IsHeap w1 F hb H s := by
  obtain ⟨Fam, vc, vf, h⟩ := h
  exact ⟨Fam, vc, vf, h.keeps hk hn⟩
theorem IsHeap.calm (h : IsHeap w F hb H s) (hk : Keeps (fun _ => False) w w1) : IsHeap w1 F hb H s := h.keeps hk (Apart.no _)
theorem IsHeap.inw (h : IsHeap w F hb H s) : In F w := by obtain ⟨Fam, vc, vf, h⟩ := h; exact h.inw
/-- One cell has turned. -/
theorem HeapX.setCell {i p : Nat} {c c' : Cl} {F' : Nat → Prop} (h : HeapX w F hb H s Fam vc vf) (hi : H[i]? = some (some (p, c))) (hk : Keeps (Fam (i + 3)) w w1) (hc : IsCell w1 p F' c') (hf : Fresh (Fam (i + 3)) F' w) :
    HeapX w1 (fun k => F k ∨ F' k) hb (H.set i (some (p, c'))) s (famSet Fam (i + 3) F') vc vf ∧ Keeps F w w1 ∧ Fresh F (fun k => F k ∨ F' k) w := by
  have hin : ∀ j, In (Fam j) w := fun j k hk => h.inw k (h.sub j k hk)
  have hil := (List.getElem?_eq_some_iff.1 hi).1
  have hpt : (H.set i (some (p, c'))).map ptr = H.map ptr := by
    rw [List.map_set]
    refine List.ext_getElem? fun j => ?_
    rw [List.getElem?_set]
    split
    · rename_i e; subst e
      rw [List.getElem?_map, hi]
      simp [hil, ptr]
    · rfl
  refine ⟨⟨hk.heap h.blk (h.ap 0 (i + 3) (by omega) hb h.here), ?_, fun j k hjk => ?_, famSet_ap h.ap hf hin, ?_, ?_, fun j q d hj => ?_, fun k hk2 => ?_⟩, hk.mono (fun k _ hg => h.sub _ k hg), fun k hk2 => ?_⟩
  · rw [famSet_ne Fam F' (by omega)]; exact h.here
  · by_cases e : j = i + 3
    · subst e; rw [famSet_at] at hjk; exact .inr hjk
    · rw [famSet_ne Fam F' e] at hjk; exact .inl (h.sub j k hjk)
  · rw [famSet_ne Fam F' (by omega), List.length_set, hpt]; exact h.cells.keeps hk (h.ap 1 (i + 3) (by omega))
  · rw [famSet_ne Fam F' (by omega)]; exact h.free.keeps hk (h.ap 2 (i + 3) (by omega))
  · rw [List.getElem?_set] at hj
    by_cases e : i = j
    · subst e
      simp [hil] at hj
      obtain ⟨rfl, rfl⟩ := hj
      rw [famSet_at]
      exact hc
    · rw [if_neg e] at hj
      rw [famSet_ne Fam F' (by omega)]
      exact (h.each j q d hj).keeps hk (h.ap _ _ (by omega))
  · rcases hk2 with hk2 | hk2
    · exact Nat.lt_of_lt_of_le (h.inw k hk2) hk.size
    · exact hc.inw k hk2
  · rcases hk2 with hk2 | hk2
    · exact .inl hk2
    · exact (hf k hk2).imp (h.sub _ k) id
end
/-- What is always so of a heap. -/
structure HOk (H : List (Option (Nat × Cl))) (s : HSt) : Prop where
  lim : 0 ≤ s.limit ∧ s.limit ≤ 1048576
  live : s.live = ((H.countP (·.isSome) : Nat) : Int)
  full : s.live ≤ s.limit
  len : (H.length : Int) ≤ s.limit
  nodup : s.fr.Nodup
  free : ∀ i : Int, i ∈ s.fr ↔ ∃ n : Nat, i = n ∧ H[n]? = some none
/-- The cells that a cell keeps. -/
def Cl.strong (c : Cl) : List Int := cellNums c.vals ++ (match c.list with | none => [] | some (_, xs) => cellNums xs) ++ (match c.tab with | none => [] | some (_, L, _) => cellsT L)
end Go.Proofs.Ytmefdniocgcckaa
/- Layer 6: the heap: made, asked. -/
namespace Go.Proofs.Ytmefdniocgcckaa
open Go.RowKit
set_option maxRecDepth 100000

theorem row1_cell {w : World} {F : Nat → Prop} {e n c : Nat} {A : Option Addr} {xs : List Value} (h : Row w F e 1 (.slice A n c) n xs) {i : Nat} {v : Value} (hi : xs[i]? = some v) : ∃ g, A = some ⟨g, 0, none⟩ ∧ F g ∧ g < w.heap.size ∧ w.cell? ⟨g, i, none⟩ = some v ∧ w.frozen? ⟨g, i, none⟩ = false := by
  have hn : 0 < n := by
    have := (List.getElem?_eq_some_iff.1 hi).1
    have := h.1.1
    omega
  obtain ⟨g, cur, rfl, hF, hg, -⟩ := h.blk hn
  have := h.1.cells (g := g) rfl i v hi
  rw [add_at3, Nat.zero_add] at this
  exact ⟨g, rfl, hF, World.block_lt_of_cell? w _ this, this, h.1.frozenAt _⟩
theorem heap_New (w : World) (limit : Int) :
    Calls Try.prog 8 #[.int .i64 limit] w fun e w' => ∃ hb F, e = .returned (.pointer (some ⟨hb, 0, none⟩)) ∧ IsHeap w' F hb [] ⟨[], 0, min (max limit 0) 1048576, 0, 0⟩ ∧ Keeps (fun _ => False) w w' ∧ Fresh (fun _ => False) F w := by
  refine post_gen fun R hR => ?_
  have fin : Hid (∀ l : Int, l = min (max limit 0) 1048576 → R (.returned (.pointer (some ⟨w.heap.size, 0, none⟩))) (w.alloc (.cells #[.slice none 0 0, .slice none 0 0, .int .i64 0, .int .i64 l, .int .i64 0, .int .i64 0] 66))) := hidden (by
    intro l hl
    subst hl
    refine hR.out _ _ ⟨w.heap.size, fun k => k = w.heap.size, rfl, ⟨fun i k => i = 0 ∧ k = w.heap.size, _, _, blk_new w _, ⟨rfl, rfl⟩, fun i k h => h.2, fun i j hij k h1 h2 => hij (h1.1.trans h2.1.symm), Row.nil _ _ _ _, Row.nil _ _ _ _, fun i p c h => by simp at h, fun k hk => by rw [hk]; simp⟩, (Keeps.refl _ w).alloc _, fun k hk => .inr (by rw [hk]; exact Nat.le_refl _)⟩)
  clear hR
  rcases (show limit < 0 ∨ (0 ≤ limit ∧ limit ≤ 1048576) ∨ 1048576 < limit by omega) with h | ⟨h1, h2⟩ | h
  · have e1 : max limit 0 = 0 := by omega
    have E := hidden (fin.out 0 (by rw [e1]; decide))
    go_enter Try.func8, Try.ntmps8
    go_wp2_with fail
    exact E.out
  · have e1 : max limit 0 = limit := by omega
    have e2 : min limit 1048576 = limit := by omega
    have E := hidden (fin.out limit (by rw [e1, e2]))
    go_enter Try.func8, Try.ntmps8
    go_wp2_with fail
    exact E.out
  · have e1 : max limit 0 = limit := by omega
    have e2 : min limit 1048576 = 1048576 := by omega
    have E := hidden (fin.out 1048576 (by rw [e1, e2]))
    go_enter Try.func8, Try.ntmps8
    go_wp2_with fail
    exact E.out
section
variable {w : World} {F : Nat → Prop} {hb : Nat} {H : List (Option (Nat × Cl))} {s : HSt}
theorem heap_Get_ok (h : IsHeap w F hb H s) {i p : Nat} {c : Cl} (hi : H[i]? = some (some (p, c))) :
    Calls Try.prog 58 #[.pointer (some ⟨hb, 0, none⟩), .int .i64 i] w fun e w' => e = .returned (.tuple #[.pointer (some ⟨p, 0, none⟩), .int .i64 0]) ∧ w = w' := by
  obtain ⟨Fam, vc, vf, hX⟩ := h
  obtain ⟨A, c0, rfl⟩ := hX.cells.form
  have b0 := blk_cell hX.blk 0
  simp only [List.getElem?_toArray, List.getElem?_cons_zero] at b0
  have hbz := blk_lt hX.blk
  have hil := (List.getElem?_eq_some_iff.1 hi).1
  obtain ⟨g, rfl, -, hgz, hc, -⟩ := row1_cell hX.cells (i := i) (v := .pointer (some ⟨p, 0, none⟩)) (by rw [List.getElem?_map, hi]; rfl)
  have hcap := hX.cells.cap
  have i1 : (i : Int) < (H.length : Int) := by omega
  have i2 : decide ((H.length : Int) ≤ (i : Int)) = false := by simp; omega
  clear hX hi
  refine post_gen fun R hR => ?_
  go_enter Try.func58, Try.ntmps58
  go_wp2_with fail
  exact hR.out _ _ ⟨rfl, rfl⟩
theorem heap_Get_freed (h : IsHeap w F hb H s) {i : Nat} (hi : H[i]? = some none) :
    Calls Try.prog 58 #[.pointer (some ⟨hb, 0, none⟩), .int .i64 i] w fun e w' => e = .returned (.tuple #[.pointer none, .int .i64 41]) ∧ w = w' := by
  obtain ⟨Fam, vc, vf, hX⟩ := h
  obtain ⟨A, c0, rfl⟩ := hX.cells.form
  have b0 := blk_cell hX.blk 0
  simp only [List.getElem?_toArray, List.getElem?_cons_zero] at b0
  have hbz := blk_lt hX.blk
  have hil := (List.getElem?_eq_some_iff.1 hi).1
  obtain ⟨g, rfl, -, hgz, hc, -⟩ := row1_cell hX.cells (i := i) (v := .pointer none) (by rw [List.getElem?_map, hi]; rfl)
  have hcap := hX.cells.cap
  have i1 : (i : Int) < (H.length : Int) := by omega
  have i2 : decide ((H.length : Int) ≤ (i : Int)) = false := by simp; omega
  clear hX hi
  refine post_gen fun R hR => ?_
  go_enter Try.func58, Try.ntmps58
  go_wp2_with fail
  exact hR.out _ _ ⟨rfl, rfl⟩
theorem heap_Get_range (h : IsHeap w F hb H s) {i : Int} (hi : i < 0 ∨ (H.length : Int) ≤ i) :
    Calls Try.prog 58 #[.pointer (some ⟨hb, 0, none⟩), .int .i64 i] w fun e w' => e = .returned (.tuple #[.pointer none, .int .i64 1]) ∧ w = w' := by
  obtain ⟨Fam, vc, vf, hX⟩ := h
  obtain ⟨A, c0, rfl⟩ := hX.cells.form
  have b0 := blk_cell hX.blk 0
  simp only [List.getElem?_toArray, List.getElem?_cons_zero] at b0
  have hbz := blk_lt hX.blk
  clear hX
  refine post_gen fun R hR => ?_
  rcases hi with hi | hi
  · go_enter Try.func58, Try.ntmps58
    go_wp2_with fail
    exact hR.out _ _ ⟨rfl, rfl⟩
  · have i3 : 0 ≤ i := by omega
    have i2 : decide ((H.length : Int) ≤ i) = true := by simpa using hi
    go_enter Try.func58, Try.ntmps58
    go_wp2_with fail
    exact hR.out _ _ ⟨rfl, rfl⟩
/-- Of a value that is no cell's. -/
theorem heap_Of_type (w : World) (hb : Nat) (v : V) (kind : Int) (hk : v.k ≠ 4) :
    Calls Try.prog 32 #[.pointer (some ⟨hb, 0, none⟩), v.val, .int .i64 kind] w fun e w' => e = .returned (.tuple #[.pointer none, .int .i64 30]) ∧ Keeps (fun _ => False) w w' := by
  refine post_gen fun R hR => ?_
  have j : (v.k != 4) = true := by simpa using hk
  unfold V.val
  go_enter Try.func32, Try.ntmps32
  go_wp2_with fail
  exact hR.out _ _ ⟨rfl, (Keeps.refl _ _).alloc _⟩
theorem heap_Of_ok (h : IsHeap w F hb H s) {i p : Nat} {c : Cl} (hi : H[i]? = some (some (p, c))) (kind : Int) (t : ByteArray) (hk : kind = 0 ∨ c.kind = kind) :
    Calls Try.prog 32 #[.pointer (some ⟨hb, 0, none⟩), V.val ⟨4, i, t⟩, .int .i64 kind] w fun e w' => e = .returned (.tuple #[.pointer (some ⟨p, 0, none⟩), .int .i64 0]) ∧ Keeps (fun _ => False) w w' := by
  have HG := hidden (fun (W : World) (hk : Keeps (fun _ => False) w W) => heap_Get_ok (h.calm hk) hi)
  have HH := hidden h
  obtain ⟨Fam, vc, vf, hX⟩ := h
  obtain ⟨G, vv, vn, lp, tp, hC⟩ := hX.each i p c hi
  have c0 := blk_cell hC.blk 0
  simp only [List.getElem?_toArray, List.getElem?_cons_zero] at c0
  have hpz := blk_lt hC.blk
  clear hX hC
  refine post_gen fun R hR => ?_
  unfold V.val
  rcases hk with rfl | rfl
  · go_enter Try.func32, Try.ntmps32
    go_wp2_with (go_at_call 58; refine (HG.out _ ((Keeps.refl _ w).alloc _)).mono ?_; rintro e _ ⟨rfl, rfl⟩)
    exact hR.out _ _ ⟨rfl, (Keeps.refl _ _).alloc _⟩
  · by_cases h0 : c.kind = 0
    · have H0 := hidden h0
      rw [h0] at c0
      rw [h0]
      clear h0
      go_enter Try.func32, Try.ntmps32
      go_wp2_with (go_at_call 58; refine (HG.out _ ((Keeps.refl _ w).alloc _)).mono ?_; rintro e _ ⟨rfl, rfl⟩)
      exact hR.out _ _ ⟨rfl, (Keeps.refl _ _).alloc _⟩
    · have j : (c.kind != 0) = true := by simpa using h0
      clear h0
      go_enter Try.func32, Try.ntmps32
      go_wp2_with (go_at_call 58; refine (HG.out _ ((Keeps.refl _ w).alloc _)).mono ?_; rintro e _ ⟨rfl, rfl⟩)
      exact hR.out _ _ ⟨rfl, (Keeps.refl _ _).alloc _⟩
theorem heap_Of_kind (h : IsHeap w F hb H s) {i p : Nat} {c : Cl} (hi : H[i]? = some (some (p, c))) (kind : Int) (t : ByteArray) (h0 : kind ≠ 0) (hk : c.kind ≠ kind) :
    Calls Try.prog 32 #[.pointer (some ⟨hb, 0, none⟩), V.val ⟨4, i, t⟩, .int .i64 kind] w fun e w' => e = .returned (.tuple #[.pointer none, .int .i64 30]) ∧ Keeps (fun _ => False) w w' := by
  have HG := hidden (fun (W : World) (hk : Keeps (fun _ => False) w W) => heap_Get_ok (h.calm hk) hi)
  obtain ⟨Fam, vc, vf, hX⟩ := h
  obtain ⟨G, vv, vn, lp, tp, hC⟩ := hX.each i p c hi
  have c0 := blk_cell hC.blk 0
  simp only [List.getElem?_toArray, List.getElem?_cons_zero] at c0
  have hpz := blk_lt hC.blk
  clear hX hC
  refine post_gen fun R hR => ?_
  unfold V.val
  have j : (kind != 0) = true := by simpa using h0
  have j2 : (c.kind != kind) = true := by simpa using hk
  clear h0 hk
  go_enter Try.func32, Try.ntmps32
  go_wp2_with (go_at_call 58; refine (HG.out _ ((Keeps.refl _ w).alloc _)).mono ?_; rintro e _ ⟨rfl, rfl⟩)
  exact hR.out _ _ ⟨rfl, (Keeps.refl _ _).alloc _⟩
theorem heap_Of_none (h : IsHeap w F hb H s) {n : Int} (kind : Int) (t : ByteArray) (hn : n < 0 ∨ (H.length : Int) ≤ n) :
    Calls Try.prog 32 #[.pointer (some ⟨hb, 0, none⟩), V.val ⟨4, n, t⟩, .int .i64 kind] w fun e w' => e = .returned (.tuple #[.pointer none, .int .i64 1]) ∧ Keeps (fun _ => False) w w' := by
  have HG := hidden (fun (W : World) (hk : Keeps (fun _ => False) w W) => heap_Get_range (h.calm hk) hn)
  clear h hn
  refine post_gen fun R hR => ?_
  unfold V.val
  go_enter Try.func32, Try.ntmps32
  go_wp2_with (go_at_call 58; refine (HG.out _ ((Keeps.refl _ w).alloc _)).mono ?_; rintro e _ ⟨rfl, rfl⟩)
  exact hR.out _ _ ⟨rfl, (Keeps.refl _ _).alloc _⟩
theorem heap_Of_freed (h : IsHeap w F hb H s) {i : Nat} (kind : Int) (t : ByteArray) (hi : H[i]? = some none) :
    Calls Try.prog 32 #[.pointer (some ⟨hb, 0, none⟩), V.val ⟨4, i, t⟩, .int .i64 kind] w fun e w' => e = .returned (.tuple #[.pointer none, .int .i64 41]) ∧ Keeps (fun _ => False) w w' := by
  have HG := hidden (fun (W : World) (hk : Keeps (fun _ => False) w W) => heap_Get_freed (h.calm hk) hi)
  clear h hi
  refine post_gen fun R hR => ?_
  unfold V.val
  go_enter Try.func32, Try.ntmps32
  go_wp2_with (go_at_call 58; refine (HG.out _ ((Keeps.refl _ w).alloc _)).mono ?_; rintro e _ ⟨rfl, rfl⟩)
  exact hR.out _ _ ⟨rfl, (Keeps.refl _ _).alloc _⟩
end
end Go.Proofs.Ytmefdniocgcckaa
/- Layer 6: the heap: what a cell keeps; of which cell a weak one tells. -/
namespace Go.Proofs.Ytmefdniocgcckaa
open Go.RowKit
set_option maxRecDepth 100000

/-- Whole numbers that are collected in a row of the call's own. -/
structure Acc (w wi : World) (Fa : Nat → Prop) (A : Option Addr) (n c : Nat) (l : List Int) : Prop where
  len : n = l.length
  row : Row wi Fa 3 1 (.slice A n c) n (intCells l)
  inw : In Fa wi
  K : Keeps (fun _ => False) w wi
  fresh : Fresh (fun _ => False) Fa w
theorem Acc.app {w wi wj wk : World} {Fa : Nat → Prop} {A A' : Option Addr} {n n' c c' : Nat} {l l2 : List Int} (h : Acc w wi Fa A n c l) (hk : Keeps (fun _ => False) wi wj) (hn : n' = n + l2.length)
    (hr : Row wk (fun k => Fa k ∨ wj.heap.size ≤ k) 3 1 (.slice A' n' c') n' (intCells l ++ intCells l2)) (hK : Keeps (fun k => (Value.slice A n c).ownBlock = some k) wj wk) : ∃ F2, Acc w wk F2 A' n' c' (l ++ l2) := by
  have hs := h.K.size
  have hs1 := hk.size
  refine ⟨fun k => (Fa k ∨ wj.heap.size ≤ k) ∧ k < wk.heap.size, by rw [hn, h.len, List.length_append], ?_, fun k hk => hk.2, ?_, fun k hk => ?_⟩
  · rw [intCells_append]
    exact hr.mono (fun k hlt h => ⟨h, hlt⟩)
  · refine (h.K.trans hk (fun _ _ h => h)).trans (hK.mono (T := Fa) (fun k _ e => h.row.2 k e)) (fun i hi hF => ?_)
    rcases h.fresh i hF with x | x
    · exact x
    · omega
  · rcases hk.1 with x | x
    · exact h.fresh k x
    · exact .inr (by omega)
theorem cellsT_length (L : List Ent) : (cellsT L).length ≤ 2 * L.length := by
  have h1 := cellNums_length (L.map Ent.key)
  have h2 := cellNums_length (L.map Ent.val)
  simp only [cellsT, List.length_append, List.length_map] at h1 h2 ⊢
  omega
end Go.Proofs.Ytmefdniocgcckaa
/- Layer 6: the heap: a cell more. -/
namespace Go.Proofs.Ytmefdniocgcckaa
open Go.RowKit
set_option maxRecDepth 100000

theorem info_i64 : (Try.prog.info? 2).map (fun i => (i.zero, i.size, i.bytes)) = some (some (.int .i64 0), 1, 8) := by kernel_rfl
theorem info_ptr : (Try.prog.info? 69).map (fun i => (i.zero, i.size, i.bytes)) = some (some (.pointer none), 1, 8) := by kernel_rfl
theorem Ints.src {P : Program} {w : World} {A : Option Addr} {c : Nat} {xs : List Int} {t e' : TypeId} (h : Ints w A xs) (hu : P.underlying t = some (.slice e')) : Src P 1 t (.slice A xs.length c) xs.length (intCells xs) w := by
  cases xs with
  | nil =>
    cases A with
    | none => exact Src.ofNil w hu c
    | some a => exact Src.ofSlice w hu a 0 c [] (by simp) (fun j u hj => by simp at hj) (fun u hu => by simp at hu)
  | cons x l =>
    obtain ⟨b, o, rfl, -⟩ := h 0 x rfl
    refine Src.ofSlice w hu _ _ c _ (by simp [intCells]) (fun j u hj => ?_) (fun u hu => by simp [intCells] at hu; rcases hu with rfl | ⟨a, _, rfl⟩ <;> rfl)
    rw [add_at3]
    simp only [intCells, List.getElem?_map] at hj
    cases hx : (x :: l)[j]? with
    | none => rw [hx] at hj; cases hj
    | some y =>
      rw [hx] at hj
      obtain rfl : Value.int .i64 y = u := by simpa using hj
      obtain ⟨b2, o2, e, hc⟩ := h j y hx
      simp at e
      obtain ⟨rfl, rfl⟩ := e
      exact hc
theorem slices_CloneI (w : World) (A : Option Addr) (c : Nat) (xs : List Int) (h : Ints w A xs) (hl : xs.length ≤ 1099511627776) (hnil : A = none → xs = []) :
    Calls Try.prog 29 #[.slice A xs.length c] w fun e w' => ∃ A' c' F, e = .returned (.slice A' xs.length c') ∧ Row w' F 2 1 (.slice A' xs.length c') xs.length (intCells xs) ∧ In F w' ∧ Keeps (fun _ => False) w w' ∧ Fresh (fun _ => False) F w := by
  have H := hidden h
  clear h
  refine post_gen fun R hR => ?_
  cases A with
  | none =>
    obtain rfl := hnil rfl
    have hrun := fun W => Lib.run_eql_slice_nil (P := Try.prog) W 33 2 none 0 c 0 0 Try.underlying33
    go_enter Try.func29, Try.ntmps29
    go_wp2
    exact hR.out _ _ ⟨_, _, fun _ => False, rfl, Row.nil _ _ _ _, fun _ h => h.elim, Keeps.refl _ _, fun _ h => h.elim⟩
  | some a =>
    have hrun := fun W => Lib.run_eql_slice_nil (P := Try.prog) W 33 2 (some a) xs.length c 0 0 Try.underlying33
    go_enter Try.func29, Try.ntmps29
    go_wp2_with (at_builtin; refine app_list rfl (fun k => k = w.heap.size) _ _ _ _ _ _ 1 8 rfl Try.underlying33 info_i64 rfl (by decide) (.slice (some ⟨w.heap.size, 0, none⟩) 0 0) _ _ rfl (Row.made0 w _ 1) _ rfl _ _ ((H.out.keeps ((Keeps.refl (fun _ => False) w).alloc _) (fun _ _ _ _ h => h)).src Try.underlying33) (by omega) (by omega) ?_; intro A2 c2 w1 hR2 hK2; have HR2 := hidden hR2; have HK2 := hidden hK2; clear hR2 hK2)
    have g1 := HR2.out
    simp only [Nat.zero_add, List.nil_append] at g1
    have g2 := HK2.out.size
    simp at g2
    have hK : Keeps (fun _ => False) w w1 := ((Keeps.refl (fun _ => False) w).alloc _).trans HK2.out (fun i hi h => by simp [Value.ownBlock] at h; omega)
    refine hR.out _ _ ⟨A2, c2, fun k => w.heap.size ≤ k ∧ k < w1.heap.size, by simp, ⟨g1.1, fun k hk => ⟨?_, g1.lt k hk⟩⟩, fun k hk => hk.2, hK, fun k hk => .inr hk.1⟩
    have := g1.2 k hk
    simp at this
    omega
theorem famSet_ap2 {G : Nat → Nat → Prop} {i : Nat} {F' : Nat → Prop} (h : ∀ a b, a ≠ b → Apart (G a) (G b)) (hf : ∀ j, j ≠ i → Apart F' (G j)) : ∀ a b, a ≠ b → Apart (famSet G i F' a) (famSet G i F' b) := fun a b hab => by
  by_cases ha : a = i
  · subst ha
    rw [famSet_at, famSet_ne G F' (fun e => hab e.symm)]
    exact hf b (fun e => hab e.symm)
  · by_cases hb : b = i
    · subst hb
      rw [famSet_at, famSet_ne G F' ha]
      exact (hf a ha).symm
    · rw [famSet_ne G F' ha, famSet_ne G F' hb]
      exact h a b hab
section
variable {w w1 : World} {F S : Nat → Prop} {hb : Nat} {H : List (Option (Nat × Cl))} {s : HSt} {Fam : Nat → Nat → Prop} {vc vf : Value}
theorem HeapX.ne (h : HeapX w F hb H s Fam vc vf) : (∀ k, vc.ownBlock = some k → k ≠ hb) ∧ (∀ k, vf.ownBlock = some k → k ≠ hb) :=
  ⟨h.cells.ne h.blk (by decide), h.free.ne h.blk (by decide)⟩
/-- A cell more, of what has come: at place i of what is there now. -/
theorem HeapX.put {p i : Nat} {c : Cl} {Fc : Nat → Prop} {s' : HSt} {Fam1 Fam2 : Nat → Prop} {vc' vf' : Value} {H' : List (Option (Nat × Cl))} (h : HeapX w F hb H s Fam vc vf)
    (hblk : w1.heap[hb]? = some (.cells #[vc', vf', .int .i64 s'.live, .int .i64 s'.limit, .int .i64 s'.freed, .int .i64 s'.runs] 66 (0, 0)))
    (hk : Keeps (fun k => k = hb ∨ Fam 1 k ∨ Fam 2 k) w w1) (hc : IsCell w1 p Fc c) (hFc : Apart F Fc)
    (h1 : Row w1 Fam1 69 1 vc' H'.length (H'.map ptr)) (f1 : Fresh (Fam 1) Fam1 w) (i1 : In Fam1 w1) (hF1 : Apart Fc Fam1)
    (h2 : Row w1 Fam2 3 1 vf' s'.fr.length (intCells s'.fr)) (f2 : ∀ k, Fam2 k → Fam 2 k)
    (hH : ∀ j, j ≠ i → ∀ q d, H'[j]? = some (some (q, d)) → H[j]? = some (some (q, d))) (hi : ∀ q d, H'[i]? = some (some (q, d)) → q = p ∧ d = c) :
    HeapX w1 (fun k => (F k ∨ Fc k) ∨ Fam1 k) hb H' s' (famSet (famSet (famSet Fam 1 Fam1) 2 Fam2) (i + 3) Fc) vc' vf' := by
  have hin : ∀ j, In (Fam j) w := fun j k hk => h.inw k (h.sub j k hk)
  have ap1 := famSet_ap h.ap f1 hin
  have ap2 : ∀ a b, a ≠ b → Apart (famSet (famSet Fam 1 Fam1) 2 Fam2 a) (famSet (famSet Fam 1 Fam1) 2 Fam2 b) := famSet_ap2 ap1 (fun j hj k h1 h2 => by
    by_cases e : j = 1
    · subst e
      rw [famSet_at] at h2
      rcases f1 k h2 with x | x
      · exact h.ap 1 2 (by decide) k x (f2 k h1)
      · have := hin 2 k (f2 k h1); omega
    · rw [famSet_ne Fam Fam1 e] at h2
      exact h.ap 2 j (fun e => hj e.symm) k (f2 k h1) h2)
  have ap3 := famSet_ap2 (i := i + 3) (F' := Fc) ap2 (fun j hj k hk1 hk2 => by
    by_cases e2 : j = 2
    · subst e2
      rw [famSet_at] at hk2
      exact hFc k (h.sub 2 k (f2 k hk2)) hk1
    · rw [famSet_ne _ _ e2] at hk2
      by_cases e1 : j = 1
      · subst e1
        rw [famSet_at] at hk2
        exact hF1 k hk1 hk2
      · rw [famSet_ne _ _ e1] at hk2
        exact hFc k (h.sub j k hk2) hk1)
  refine ⟨hblk, ?_, fun j k hjk => ?_, ap3, ?_, ?_, fun j q d hj => ?_, fun k hk2 => ?_⟩
  · rw [famSet_ne _ _ (by omega), famSet_ne _ _ (by omega), famSet_ne _ _ (by omega)]; exact h.here
  · by_cases e3 : j = i + 3
    · subst e3; rw [famSet_at] at hjk; exact .inl (.inr hjk)
    · rw [famSet_ne _ _ e3] at hjk
      by_cases e2 : j = 2
      · subst e2; rw [famSet_at] at hjk; exact .inl (.inl (h.sub 2 k (f2 k hjk)))
      · rw [famSet_ne _ _ e2] at hjk
        by_cases e1 : j = 1
        · subst e1; rw [famSet_at] at hjk; exact .inr hjk
        · rw [famSet_ne _ _ e1] at hjk; exact .inl (.inl (h.sub j k hjk))
  · rw [famSet_ne _ _ (by omega), famSet_ne _ _ (by omega), famSet_at]; exact h1
  · rw [famSet_ne _ _ (by omega), famSet_at]; exact h2
  · by_cases e : j = i
    · subst e
      obtain ⟨rfl, rfl⟩ := hi q d hj
      rw [famSet_at]; exact hc
    · rw [famSet_ne _ _ (by omega), famSet_ne _ _ (by omega), famSet_ne _ _ (by omega)]
      refine (h.each j q d (hH j e q d hj)).keeps hk (fun k a b => ?_)
      rcases b with rfl | b | b
      · exact h.ap 0 (j + 3) (by omega) k h.here a
      · exact h.ap 1 (j + 3) (by omega) k b a
      · exact h.ap 2 (j + 3) (by omega) k b a
  · rcases hk2 with (hk2 | hk2) | hk2
    · exact Nat.lt_of_lt_of_le (h.inw k hk2) hk.size
    · exact hc.inw k hk2
    · exact i1 k hk2
end
def famOf (F0 F1 F2 F3 : Nat → Prop) : Nat → Nat → Prop
  | 0 => F0
  | 1 => F1
  | 2 => F2
  | 3 => F3
  | _ => fun _ => False
/-- What is made of a cell that is handed over: its rows are made anew, its list and table are its own from now on. -/
theorem cell_made {w w1 : World} {p : Nat} {c : Cl} {Fl Ft F5 F6 : Nat → Prop} {v5 v6 : Value} {lp tp : Option Addr}
    (hblk : w1.heap[p]? = some (.cells #[.int .i64 c.kind, v5, .pointer lp, .pointer tp, v6, .string c.text] 39 (0, 0)))
    (h5 : Row w1 F5 29 3 v5 c.vals.length (flat c.vals)) (h6 : Row w1 F6 2 1 v6 c.nums.length (intCells c.nums)) (hl : ListOf w1 Fl lp c.list) (ht : TabOf w1 Ft tp c.tab)
    (i5 : In F5 w1) (i6 : In F6 w1) (il : In Fl w) (it : In Ft w) (n5 : ∀ k, F5 k → w.heap.size ≤ k ∧ k ≠ p) (n6 : ∀ k, F6 k → w.heap.size ≤ k ∧ k ≠ p) (a56 : Apart F5 F6) (alt : Apart Fl Ft) (hp : w.heap.size ≤ p) (hsz : w.heap.size ≤ w1.heap.size) (hs : c.small) :
    IsCell w1 p (fun k => k = p ∨ F5 k ∨ Fl k ∨ Ft k ∨ F6 k) c := by
  have key : ∀ i k, famOf F5 Fl Ft F6 i k → (i = 0 ∧ F5 k) ∨ (i = 1 ∧ Fl k) ∨ (i = 2 ∧ Ft k) ∨ (i = 3 ∧ F6 k) := fun i k h => by
    match i, h with
    | 0, h => exact .inl ⟨rfl, h⟩
    | 1, h => exact .inr (.inl ⟨rfl, h⟩)
    | 2, h => exact .inr (.inr (.inl ⟨rfl, h⟩))
    | 3, h => exact .inr (.inr (.inr ⟨rfl, h⟩))
    | n + 4, h => exact h.elim
  refine ⟨famOf F5 Fl Ft F6, v5, v6, lp, tp, hblk, .inl rfl, fun i k h => ?_, fun i h => ?_, fun i j hij k h1 h2 => ?_, h5, hl, ht, h6, fun k h => ?_, hs⟩
  · rcases key i k h with ⟨_, h⟩ | ⟨_, h⟩ | ⟨_, h⟩ | ⟨_, h⟩
    · exact .inr (.inl h)
    · exact .inr (.inr (.inl h))
    · exact .inr (.inr (.inr (.inl h)))
    · exact .inr (.inr (.inr (.inr h)))
  · rcases key i p h with ⟨_, h⟩ | ⟨_, h⟩ | ⟨_, h⟩ | ⟨_, h⟩
    · exact (n5 _ h).2 rfl
    · have := il _ h; omega
    · have := it _ h; omega
    · exact (n6 _ h).2 rfl
  · rcases key i k h1 with ⟨e1, h1⟩ | ⟨e1, h1⟩ | ⟨e1, h1⟩ | ⟨e1, h1⟩ <;> rcases key j k h2 with ⟨e2, h2⟩ | ⟨e2, h2⟩ | ⟨e2, h2⟩ | ⟨e2, h2⟩ <;> first | exact hij (e1.trans e2.symm) | exact a56 k h1 h2 | exact a56 k h2 h1 | exact alt k h1 h2 | exact alt k h2 h1 | (have := (n5 k h1).1; have := il k h2; omega) | (have := (n5 k h1).1; have := it k h2; omega) | (have := (n5 k h2).1; have := il k h1; omega) | (have := (n5 k h2).1; have := it k h1; omega) | (have := (n6 k h1).1; have := il k h2; omega) | (have := (n6 k h1).1; have := it k h2; omega) | (have := (n6 k h2).1; have := il k h1; omega) | (have := (n6 k h2).1; have := it k h1; omega)
  · rcases h with rfl | h | h | h | h
    · exact blk_lt hblk
    · exact i5 k h
    · exact Nat.lt_of_lt_of_le (il k h) hsz
    · exact Nat.lt_of_lt_of_le (it k h) hsz
    · exact i6 k h
end Go.Proofs.Ytmefdniocgcckaa
/- Layer 6: the heap: Alloc. -/
namespace Go.Proofs.Ytmefdniocgcckaa
open Go.RowKit
set_option maxRecDepth 100000

/-- What is handed over to the heap as a cell. -/
structure Given (w : World) (F Fl Ft : Nat → Prop) (c : Cl) (Av An lp tp : Option Addr) : Prop where
  vals : Vals w Av c.vals
  nv : Av = none → c.vals = []
  nums : Ints w An c.nums
  nn : An = none → c.nums = []
  list : ListOf w Fl lp c.list
  tab : TabOf w Ft tp c.tab
  fl : Apart F Fl
  ft : Apart F Ft
  lt : Apart Fl Ft
  il : In Fl w
  it : In Ft w
  small : c.small
theorem ptr_lit (w : World) (p : Nat) {m : Nat} (hm : m = w.heap.size) : Src Try.prog 1 63 (.slice (some ⟨m, 0, none⟩) 1 1) 1 [.pointer (some ⟨p, 0, none⟩)] (w.alloc (.cells #[.pointer (some ⟨p, 0, none⟩)] 69)) :=
  hm ▸ Src.ofSlice _ Try.underlying63 _ _ 1 _ rfl (fun j u hj => by
    rw [add_at3, blk_cell (blk_new w _)]
    cases j with
    | zero => simpa using hj
    | succ j => simp at hj) (fun u hu => by simp at hu; subst hu; rfl)
theorem heap_Alloc_type (w : World) (F : Nat → Prop) (hb : Nat) (H : List (Option (Nat × Cl))) (s : HSt) (c : Cl) (Av An lp tp : Option Addr) (cv cn : Nat) (hk : c.kind < 1 ∨ 11 ≤ c.kind) :
    Calls Try.prog 10 #[.pointer (some ⟨hb, 0, none⟩), .agg #[.int .i64 c.kind, .slice Av c.vals.length cv, .pointer lp, .pointer tp, .slice An c.nums.length cn, .string c.text]] w fun e w' => e = .returned (.tuple #[.int .i64 0, .int .i64 30]) ∧ Keeps (fun _ => False) w w' := by
  refine post_gen fun R hR => ?_
  rcases hk with hk | hk
  · have j : decide (c.kind < 1) = true := by simpa using hk
    go_enter Try.func10, Try.ntmps10
    go_wp2_with fail
    exact hR.out _ _ ⟨rfl, (Keeps.refl _ _).alloc _⟩
  · have j : decide (c.kind < 1) = false := by simp; omega
    have j2 : decide ((11 : Int) ≤ c.kind) = true := by simpa using hk
    have j3 : ¬ c.kind < 1 := by omega
    go_enter Try.func10, Try.ntmps10
    go_wp2_with fail
    exact hR.out _ _ ⟨rfl, (Keeps.refl _ _).alloc _⟩
theorem heap_Alloc_full (w : World) (F : Nat → Prop) (hb : Nat) (H : List (Option (Nat × Cl))) (s : HSt) (c : Cl) (Av An lp tp : Option Addr) (cv cn : Nat) (h : IsHeap w F hb H s) (hk : 1 ≤ c.kind ∧ c.kind < 11) (hf : s.limit ≤ s.live) :
    Calls Try.prog 10 #[.pointer (some ⟨hb, 0, none⟩), .agg #[.int .i64 c.kind, .slice Av c.vals.length cv, .pointer lp, .pointer tp, .slice An c.nums.length cn, .string c.text]] w fun e w' => e = .returned (.tuple #[.int .i64 0, .int .i64 40]) ∧ Keeps (fun _ => False) w w' := by
  obtain ⟨Fam, vc, vf, hX⟩ := h
  have b2 := blk_cell hX.blk 2
  have b3 := blk_cell hX.blk 3
  simp only [List.getElem?_toArray, List.getElem?_cons_zero, List.getElem?_cons_succ] at b2 b3
  have hbz := blk_lt hX.blk
  have j : decide (c.kind < 1) = false := by simp; omega
  have j2 : decide ((11 : Int) ≤ c.kind) = false := by simp; omega
  have j3 : decide (s.limit ≤ s.live) = true := by simpa using hf
  clear hX
  refine post_gen fun R hR => ?_
  go_enter Try.func10, Try.ntmps10
  go_wp2_with fail
  go_quiet (fail)
  go_wp2_with fail
  exact hR.out _ _ ⟨rfl, ((Keeps.refl _ _).alloc _).drewN _⟩
set_option maxHeartbeats 8000000 in
theorem heap_Alloc_end (w : World) (F : Nat → Prop) (hb : Nat) (H : List (Option (Nat × Cl))) (s : HSt) (c : Cl) (Av An lp tp : Option Addr) (cv cn : Nat) (Fl Ft : Nat → Prop) (h : IsHeap w F hb H s) (hg : Given w F Fl Ft c Av An lp tp) (hk : 1 ≤ c.kind ∧ c.kind < 11) (hf : s.live < s.limit) (hlim : 0 ≤ s.live ∧ s.limit ≤ 1048576) (hlen : H.length ≤ 1048576) (hfr : s.fr = []) :
    Calls Try.prog 10 #[.pointer (some ⟨hb, 0, none⟩), .agg #[.int .i64 c.kind, .slice Av c.vals.length cv, .pointer lp, .pointer tp, .slice An c.nums.length cn, .string c.text]] w fun e w' => ∃ p F', e = .returned (.tuple #[.int .i64 (H.length : Int), .int .i64 0]) ∧ IsHeap w' F' hb (H ++ [some (p, c)]) ⟨[], s.live + 1, s.limit, s.freed, s.runs⟩ ∧ Keeps F w w' ∧ Fresh (fun k => F k ∨ Fl k ∨ Ft k) F' w := by
  obtain ⟨Fam, vc, vf, hX⟩ := h
  obtain ⟨Ac, cc, rfl⟩ := hX.cells.form
  obtain ⟨Af, cf, rfl⟩ := hX.free.form
  have HX := hidden hX
  have HG := hidden hg
  have b2 := blk_cell hX.blk 2
  have b3 := blk_cell hX.blk 3
  simp only [List.getElem?_toArray, List.getElem?_cons_zero, List.getElem?_cons_succ] at b2 b3
  have hbz := blk_lt hX.blk
  have hFb : ∀ k, F k → k < w.heap.size := hX.inw
  have hbF : F hb := hX.sub 0 hb hX.here
  have j : decide (c.kind < 1) = false := by simp; omega
  have j2 : decide ((11 : Int) ≤ c.kind) = false := by simp; omega
  have j3 : decide (s.limit ≤ s.live) = false := by simp; omega
  have HFB := hidden hFb
  have HBF := hidden hbF
  have hsv := hg.small.vals
  have hsn := hg.small.nums
  clear hX hg hFb hbF
  refine post_gen fun R hR => ?_
  go_enter Try.func10, Try.ntmps10
  go_wp2_with fail
  go_quiet (fail)
  go_upto_region 6 with fail
  have K1 := hidden (show Keeps (fun _ => False) w (((w.alloc (.cells #[.int .i64 c.kind, .slice Av c.vals.length cv, .pointer lp, .pointer tp, .slice An c.nums.length cn, .string c.text] 39)).drewN nq).alloc (.cells #[.int .i64 c.kind, .slice Av c.vals.length cv, .pointer lp, .pointer tp, .slice An c.nums.length cn, .string c.text] 39)) from (((Keeps.refl _ w).alloc _).drewN _).alloc _)
  have CB := hidden (show (((w.alloc (.cells #[.int .i64 c.kind, .slice Av c.vals.length cv, .pointer lp, .pointer tp, .slice An c.nums.length cn, .string c.text] 39)).drewN nq).alloc (.cells #[.int .i64 c.kind, .slice Av c.vals.length cv, .pointer lp, .pointer tp, .slice An c.nums.length cn, .string c.text] 39)).heap[w.heap.size]? = some (.cells #[.int .i64 c.kind, .slice Av c.vals.length cv, .pointer lp, .pointer tp, .slice An c.nums.length cn, .string c.text] 39 (0, 0)) from blk_alloc (w := (w.alloc (.cells #[.int .i64 c.kind, .slice Av c.vals.length cv, .pointer lp, .pointer tp, .slice An c.nums.length cn, .string c.text] 39)).drewN nq) (blk_new w _) _)
  have OB := hidden (show (((w.alloc (.cells #[.int .i64 c.kind, .slice Av c.vals.length cv, .pointer lp, .pointer tp, .slice An c.nums.length cn, .string c.text] 39)).drewN nq).alloc (.cells #[.int .i64 c.kind, .slice Av c.vals.length cv, .pointer lp, .pointer tp, .slice An c.nums.length cn, .string c.text] 39)).heap[w.heap.size + 1]? = some (.cells #[.int .i64 c.kind, .slice Av c.vals.length cv, .pointer lp, .pointer tp, .slice An c.nums.length cn, .string c.text] 39 (0, 0)) from by
    have := blk_new ((w.alloc (.cells #[.int .i64 c.kind, .slice Av c.vals.length cv, .pointer lp, .pointer tp, .slice An c.nums.length cn, .string c.text] 39)).drewN nq) (.cells #[.int .i64 c.kind, .slice Av c.vals.length cv, .pointer lp, .pointer tp, .slice An c.nums.length cn, .string c.text] 39)
    rwa [show ((w.alloc (.cells #[.int .i64 c.kind, .slice Av c.vals.length cv, .pointer lp, .pointer tp, .slice An c.nums.length cn, .string c.text] 39)).drewN nq).heap.size = w.heap.size + 1 by simp] at this)
  have hWs : (((w.alloc (.cells #[.int .i64 c.kind, .slice Av c.vals.length cv, .pointer lp, .pointer tp, .slice An c.nums.length cn, .string c.text] 39)).drewN nq).alloc (.cells #[.int .i64 c.kind, .slice Av c.vals.length cv, .pointer lp, .pointer tp, .slice An c.nums.length cn, .string c.text] 39)).heap.size = w.heap.size + 2 := by simp
  have hsz1 : ((w.alloc (.cells #[.int .i64 c.kind, .slice Av c.vals.length cv, .pointer lp, .pointer tp, .slice An c.nums.length cn, .string c.text] 39)).drewN nq).heap.size = w.heap.size + 1 := by simp
  try rw [hsz1]
  clear b2 b3 hbz
  generalize ((w.alloc (.cells #[.int .i64 c.kind, .slice Av c.vals.length cv, .pointer lp, .pointer tp, .slice An c.nums.length cn, .string c.text] 39)).drewN nq).alloc (.cells #[.int .i64 c.kind, .slice Av c.vals.length cv, .pointer lp, .pointer tp, .slice An c.nums.length cn, .string c.text] 39) = W at *
  clear hsz1
  have c1 := blk_cell CB.out 1
  have c4 := blk_cell CB.out 4
  simp only [List.getElem?_toArray, List.getElem?_cons_zero, List.getElem?_cons_succ] at c1 c4
  have hcz := blk_lt CB.out
  have hoz := blk_lt OB.out
  have of1 := blk_frozen OB.out 1
  have of4 := blk_frozen OB.out 4
  obtain ⟨o1v, ho1⟩ : ∃ v, W.cell? ⟨w.heap.size + 1, 1, none⟩ = some v := ⟨_, blk_cell OB.out 1⟩
  obtain ⟨o4v, ho4⟩ : ∃ v, W.cell? ⟨w.heap.size + 1, 4, none⟩ = some v := ⟨_, blk_cell OB.out 4⟩
  have CLV := hidden (fun (W' : World) (hk : Keeps (fun _ => False) W W') => slices_Clone W' Av cv c.vals (HG.out.vals.keeps (K1.out.trans hk (fun _ _ h => h)) (fun _ _ _ _ h => h)) (by omega) HG.out.nv)
  have CLN := hidden (fun (W' : World) (hk : Keeps (fun _ => False) W W') => slices_CloneI W' An cn c.nums (HG.out.nums.keeps (K1.out.trans hk (fun _ _ h => h)) (fun _ _ _ _ h => h)) (by omega) HG.out.nn)
  have SK := hidden (fun (W' : World) (hk : Keeps (fun _ => False) W W') => show W'.cell? ⟨w.heap.size, 1, none⟩ = some (.slice Av c.vals.length cv) ∧ W'.cell? ⟨w.heap.size, 4, none⟩ = some (.slice An c.nums.length cn) from ⟨hk.cell c1 (fun h => h), hk.cell c4 (fun h => h)⟩)
  go_region_held3 (fun W' => W'.cell? ⟨w.heap.size, 1, none⟩ = some (.slice Av c.vals.length cv) ∧ W'.cell? ⟨w.heap.size, 4, none⟩ = some (.slice An c.nums.length cn)) (first | exact SK.out _ (Keeps.refl _ _) | exact SK.out _ ((Keeps.refl _ W).drewN _) | exact SK.out _ K6.out | exact SK.out _ K5.out | exact ⟨setcell_keep (SK.out _ K6.out).1 (by simp), setcell_keep (SK.out _ K6.out).2 (by simp)⟩ | exact ⟨setcell_keep (setcell_keep (SK.out _ K6.out).1 (by simp)) (by simp), setcell_keep (setcell_keep (SK.out _ K6.out).2 (by simp)) (by simp)⟩) (first | (go_at_call 28; refine (CLV.out _ ((Keeps.refl _ W).drewN _)).mono ?_; rintro e w5 ⟨A5, c5, F5, rfl, h1, h2, h3, h4⟩; have R5 := hidden h1; have I5 := hidden h2; have K5 := hidden (((Keeps.refl (fun _ => False) W).drewN _).trans h3 (fun _ _ h => h)); have F5f := hidden h4; clear h1 h2 h3 h4) | (go_at_call 29; refine (CLN.out _ K5.out).mono ?_; rintro e w6 ⟨A6, c6, F6, rfl, h1, h2, h3, h4⟩; have R6 := hidden h1; have I6 := hidden h2; have K56 := hidden h3; have K6 := hidden (K5.out.trans h3 (fun _ _ h => h)); have F6f := hidden h4; have o1 := K6.out.heap OB.out (fun h => h); have o1c := blk_cell o1 1; have o4c := blk_cell o1 4; have o1f := blk_frozen o1 1; have o4f := blk_frozen o1 4; simp only [List.getElem?_toArray, List.getElem?_cons_zero, List.getElem?_cons_succ] at o1c o4c; have hoz6 := blk_lt o1; clear h1 h2 h3 h4 o1))
  have HOZ := hidden (show w.heap.size + 1 < w6.heap.size from hoz6)
  have PB := hidden (show ((w6.setCell ⟨w.heap.size + 1, 1, none⟩ (.slice A5 c.vals.length c5)).setCell ⟨w.heap.size + 1, 4, none⟩ (.slice A6 c.nums.length c6)).heap[w.heap.size + 1]? = some (.cells #[.int .i64 c.kind, .slice A5 c.vals.length c5, .pointer lp, .pointer tp, .slice A6 c.nums.length c6, .string c.text] 39 (0, 0)) from blk_set (blk_set (K6.out.heap OB.out (fun h => h)) 1 _) 4 _)
  have K7 := hidden (show Keeps (fun k => k = w.heap.size + 1) w6 ((w6.setCell ⟨w.heap.size + 1, 1, none⟩ (.slice A5 c.vals.length c5)).setCell ⟨w.heap.size + 1, 4, none⟩ (.slice A6 c.nums.length c6)) from (((SameBut.refl (w.heap.size + 1) w6).set 1 _).set 4 _).keeps)
  clear c1 c4 hcz hoz of1 of4 ho1 ho4 CLV CLN SK OB CB o1c o4c o1f o4f hoz6
  generalize (w6.setCell ⟨w.heap.size + 1, 1, none⟩ (.slice A5 c.vals.length c5)).setCell ⟨w.heap.size + 1, 4, none⟩ (.slice A6 c.nums.length c6) = w7 at *
  have K17 := hidden (show Keeps (fun _ => False) w w7 from (((K1.out.trans K6.out (fun _ _ h => h)).mono (T := fun k => k = w.heap.size + 1) (fun _ _ h => h.elim)).trans K7.out (fun _ _ h => h)).mono (fun i hi h => by omega))
  have hf5 : ∀ k, F5 k → w.heap.size + 2 ≤ k := fun k h => (F5f.out k h).elim (fun h => h.elim) (fun h => by simp at h; omega)
  have hf6 : ∀ k, F6 k → w.heap.size + 2 ≤ k := fun k h => (F6f.out k h).elim (fun h => h.elim) (fun h => by have := K5.out.size; omega)
  have R57 := hidden ((R5.out.keeps K56.out (Apart.no _)).keeps K7.out (fun k h e => by have := hf5 k h; omega))
  have R67 := hidden (R6.out.keeps K7.out (fun k h e => by have := hf6 k h; omega))
  have hz7 := K7.out.size
  have hz6 := K56.out.size
  have hz1 := K17.out.size
  have ap56 : Apart F5 F6 := fun k h1 h2 => (F6f.out k h2).elim (fun h => h.elim) (fun h => by have := I5.out k h1; omega)
  obtain ⟨Fc, hFcd⟩ : ∃ Fc : Nat → Prop, Fc = fun k => k = w.heap.size + 1 ∨ F5 k ∨ Fl k ∨ Ft k ∨ F6 k := ⟨_, rfl⟩
  have HC := hidden (show IsCell w7 (w.heap.size + 1) Fc c from hFcd ▸ cell_made (w := w) (c := c) (lp := lp) (tp := tp) PB.out R57.out R67.out (HG.out.list.keeps K17.out (Apart.no _)) (HG.out.tab.keeps K17.out (Apart.no _)) (fun k h => by have := I5.out k h; omega) (fun k h => by have := I6.out k h; omega) HG.out.il HG.out.it (fun k h => ⟨by have := hf5 k h; omega, by have := hf5 k h; omega⟩) (fun k h => ⟨by have := hf6 k h; omega, by have := hf6 k h; omega⟩) ap56 HG.out.lt (by omega) (by omega) HG.out.small)
  have HFC := hidden (show Apart F Fc from fun k h1 h2 => by
    rw [hFcd] at h2
    have h0 := HFB.out k h1
    rcases h2 with h2 | h2 | h2 | h2 | h2
    · omega
    · have := hf5 k h2; omega
    · exact HG.out.fl k h1 h2
    · exact HG.out.ft k h1 h2
    · have := hf6 k h2; omega)
  have HFCf := hidden (show ∀ k, Fc k → (F k ∨ Fl k ∨ Ft k) ∨ w.heap.size ≤ k from fun k h => by
    rw [hFcd] at h
    rcases h with h | h | h | h | h
    · exact .inr (by omega)
    · have := hf5 k h; exact .inr (by omega)
    · exact .inl (.inr (.inl h))
    · exact .inl (.inr (.inr h))
    · have := hf6 k h; exact .inr (by omega))
  have HX7 := hidden (HX.out.keeps K17.out (Apart.no _))
  have HPB := hidden (blk_lt PB.out)
  generalize hob : w.heap.size + 1 = ob at *
  clear hFcd HX HG R5 R6 R57 R67 I5 I6 K5 K6 K56 K7 K1 F5f F6f hf5 hf6 ap56 PB hWs HOZ hz7 hz6
  have b0 := blk_cell HX7.out.blk 0
  have b1 := blk_cell HX7.out.blk 1
  have b2 := blk_cell HX7.out.blk 2
  have b0f := blk_frozen HX7.out.blk 0
  have b1f := blk_frozen HX7.out.blk 1
  have b2f := blk_frozen HX7.out.blk 2
  simp only [List.getElem?_toArray, List.getElem?_cons_zero, List.getElem?_cons_succ] at b0 b1 b2
  have hbz := blk_lt HX7.out.blk
  have hw1 : IntKind.i64.wrap (s.live + 1) = s.live + 1 := by rw [IntKind.wrap_i64]; omega
  have HFR := hidden hfr
  rw [hfr] at b1
  have hcap := HX7.out.cells.cap
  clear hfr
  go_wp2_with (at_builtin; refine app_list rfl (Fam 1) _ _ _ _ _ _ 1 8 rfl Try.underlying63 info_ptr rfl (by decide) _ _ _ rfl ((HX7.out.cells.set (p := ⟨hb, 2, none⟩) HX7.out.ne.1 _).alloc _) _ rfl 1 _ (ptr_lit _ ob (by first | rfl | simp [World.setCell])) (by omega) (by omega) ?_; intro A9 c9 w9 hR9 hK9; have HR9 := hidden hR9; have HK9 := hidden hK9; have KX := hidden (show Keeps (fun k => Fam 1 k ∨ k = hb) w7 w9 from ((((Keeps.refl (fun k => Fam 1 k ∨ k = hb) w7).setCell (p := ⟨hb, 2, none⟩) (fun _ => .inr rfl) (.int .i64 (s.live + 1))).alloc _).trans hK9 (fun k _ e => .inl (HX7.out.cells.2 k e)))); have B9 := hidden (hK9.heap (blk_alloc (blk_set HX7.out.blk 2 (.int .i64 (s.live + 1))) _) (fun e => HX7.out.ne.1 hb e rfl)); have b0 := blk_cell B9.out 0; have b0f := blk_frozen B9.out 0; have hbz := blk_lt B9.out; clear hR9 hK9)
  have hbl : Apart Fc (fun k => k = hb ∨ Fam 1 k ∨ Fam 2 k) := fun k h1 h2 => by
    rcases h2 with rfl | h2 | h2
    · exact HFC.out _ HBF.out h1
    · exact HFC.out k (HX7.out.sub 1 k h2) h1
    · exact HFC.out k (HX7.out.sub 2 k h2) h1
  have hkE : Keeps (fun k => k = hb ∨ Fam 1 k ∨ Fam 2 k) w7 (w9.setCell ⟨hb, 0, none⟩ (.slice A9 (H.length + 1) c9)) := (KX.out.mono (fun k _ h => h.elim (fun h => .inr (.inl h)) .inl)).setCell (p := ⟨hb, 0, none⟩) (fun _ => .inl rfl) _
  have hr9 := HR9.out.set (p := ⟨hb, 0, none⟩) (HR9.out.ne B9.out (by decide)) (.slice A9 (H.length + 1) c9)
  have hs9 := KX.out.size
  have hput := HX7.out.put (p := ob) (i := H.length) (c := c) (Fc := Fc) (s' := ⟨[], s.live + 1, s.limit, s.freed, s.runs⟩) (Fam1 := fun k => (Fam 1 k ∨ w7.heap.size ≤ k) ∧ k < w9.heap.size) (Fam2 := Fam 2) (H' := H ++ [some (ob, c)]) (blk_set B9.out 0 (.slice A9 (H.length + 1) c9)) hkE (HC.out.keeps hkE hbl) HFC.out
    (by
      rw [List.length_append, List.map_append]
      exact hr9.mono (fun k hlt h => ⟨h.imp id (fun h => by simp [World.setCell] at h; omega), by simpa [World.setCell] using hlt⟩)) (fun k h => h.1) (fun k h => by simpa [World.setCell] using h.2)
    (fun k h1 h2 => by
      rcases h2.1 with h | h
      · exact HFC.out k (HX7.out.sub 1 k h) h1
      · have := HC.out.inw k h1; omega)
    (by
      have hf := (HX7.out.free.keeps KX.out (fun k h1 h2 => by
        rcases h2 with h2 | rfl
        · exact HX7.out.ap 1 2 (by decide) k h2 h1
        · exact HX7.out.ap 0 2 (by decide) _ HX7.out.here h1)).set (p := ⟨hb, 0, none⟩) (fun k hk => HX7.out.ne.2 k hk) (.slice A9 (H.length + 1) c9)
      rw [HFR.out] at hf ⊢
      exact hf) (fun k h => h)
    (fun j hj q d h => by
      rcases Nat.lt_or_ge j H.length with hl | hl
      · rwa [List.getElem?_append_left hl] at h
      · rw [List.getElem?_append_right hl] at h
        have : j - H.length ≠ 0 := by omega
        cases hjj : j - H.length with
        | zero => exact absurd hjj this
        | succ m => rw [hjj] at h; simp at h)
    (fun q d h => by
      rw [List.getElem?_append_right (Nat.le_refl _), Nat.sub_self] at h
      simp at h
      exact ⟨h.1.symm, h.2.symm⟩)
  refine hR.out _ _ ⟨ob, _, rfl, ⟨_, _, _, hput⟩, (K17.out.mono (T := F) (fun _ _ h => h.elim)).trans (hkE.mono (T := F) (fun k _ h => ?_)) (fun _ _ h => h), fun k h => ?_⟩
  · rcases h with rfl | h | h
    · exact HBF.out
    · exact HX7.out.sub 1 k h
    · exact HX7.out.sub 2 k h
  · rcases h with (h | h) | h
    · exact .inl (.inl h)
    · exact HFCf.out k h
    · rcases h.1 with h | h
      · exact .inl (.inl (HX7.out.sub 1 k h))
      · exact .inr (by omega)
set_option maxHeartbeats 8000000 in
theorem heap_Alloc_free (w : World) (F : Nat → Prop) (hb : Nat) (H : List (Option (Nat × Cl))) (s : HSt) (c : Cl) (Av An lp tp : Option Addr) (cv cn : Nat) (Fl Ft : Nat → Prop) (h : IsHeap w F hb H s) (hg : Given w F Fl Ft c Av An lp tp) (hk : 1 ≤ c.kind ∧ c.kind < 11) (hf : s.live < s.limit) (hlim : 0 ≤ s.live ∧ s.limit ≤ 1048576) (hlen : H.length ≤ 1048576) (fs : List Int) (i : Nat) (hfr : s.fr = fs ++ [(i : Int)]) (hi : i < H.length) (hfs : fs.length ≤ 1048576) :
    Calls Try.prog 10 #[.pointer (some ⟨hb, 0, none⟩), .agg #[.int .i64 c.kind, .slice Av c.vals.length cv, .pointer lp, .pointer tp, .slice An c.nums.length cn, .string c.text]] w fun e w' => ∃ p F', e = .returned (.tuple #[.int .i64 (i : Int), .int .i64 0]) ∧ IsHeap w' F' hb (H.set i (some (p, c))) ⟨fs, s.live + 1, s.limit, s.freed, s.runs⟩ ∧ Keeps F w w' ∧ Fresh (fun k => F k ∨ Fl k ∨ Ft k) F' w := by
  obtain ⟨Fam, vc, vf, hX⟩ := h
  obtain ⟨Ac, cc, rfl⟩ := hX.cells.form
  obtain ⟨Af, cf, rfl⟩ := hX.free.form
  have HX := hidden hX
  have HG := hidden hg
  have b2 := blk_cell hX.blk 2
  have b3 := blk_cell hX.blk 3
  simp only [List.getElem?_toArray, List.getElem?_cons_zero, List.getElem?_cons_succ] at b2 b3
  have hbz := blk_lt hX.blk
  have hFb : ∀ k, F k → k < w.heap.size := hX.inw
  have hbF : F hb := hX.sub 0 hb hX.here
  have j : decide (c.kind < 1) = false := by simp; omega
  have j2 : decide ((11 : Int) ≤ c.kind) = false := by simp; omega
  have j3 : decide (s.limit ≤ s.live) = false := by simp; omega
  have HFB := hidden hFb
  have HBF := hidden hbF
  have hsv := hg.small.vals
  have hsn := hg.small.nums
  clear hX hg hFb hbF
  refine post_gen fun R hR => ?_
  go_enter Try.func10, Try.ntmps10
  go_wp2_with fail
  go_quiet (fail)
  go_upto_region 6 with fail
  have K1 := hidden (show Keeps (fun _ => False) w (((w.alloc (.cells #[.int .i64 c.kind, .slice Av c.vals.length cv, .pointer lp, .pointer tp, .slice An c.nums.length cn, .string c.text] 39)).drewN nq).alloc (.cells #[.int .i64 c.kind, .slice Av c.vals.length cv, .pointer lp, .pointer tp, .slice An c.nums.length cn, .string c.text] 39)) from (((Keeps.refl _ w).alloc _).drewN _).alloc _)
  have CB := hidden (show (((w.alloc (.cells #[.int .i64 c.kind, .slice Av c.vals.length cv, .pointer lp, .pointer tp, .slice An c.nums.length cn, .string c.text] 39)).drewN nq).alloc (.cells #[.int .i64 c.kind, .slice Av c.vals.length cv, .pointer lp, .pointer tp, .slice An c.nums.length cn, .string c.text] 39)).heap[w.heap.size]? = some (.cells #[.int .i64 c.kind, .slice Av c.vals.length cv, .pointer lp, .pointer tp, .slice An c.nums.length cn, .string c.text] 39 (0, 0)) from blk_alloc (w := (w.alloc (.cells #[.int .i64 c.kind, .slice Av c.vals.length cv, .pointer lp, .pointer tp, .slice An c.nums.length cn, .string c.text] 39)).drewN nq) (blk_new w _) _)
  have OB := hidden (show (((w.alloc (.cells #[.int .i64 c.kind, .slice Av c.vals.length cv, .pointer lp, .pointer tp, .slice An c.nums.length cn, .string c.text] 39)).drewN nq).alloc (.cells #[.int .i64 c.kind, .slice Av c.vals.length cv, .pointer lp, .pointer tp, .slice An c.nums.length cn, .string c.text] 39)).heap[w.heap.size + 1]? = some (.cells #[.int .i64 c.kind, .slice Av c.vals.length cv, .pointer lp, .pointer tp, .slice An c.nums.length cn, .string c.text] 39 (0, 0)) from by
    have := blk_new ((w.alloc (.cells #[.int .i64 c.kind, .slice Av c.vals.length cv, .pointer lp, .pointer tp, .slice An c.nums.length cn, .string c.text] 39)).drewN nq) (.cells #[.int .i64 c.kind, .slice Av c.vals.length cv, .pointer lp, .pointer tp, .slice An c.nums.length cn, .string c.text] 39)
    rwa [show ((w.alloc (.cells #[.int .i64 c.kind, .slice Av c.vals.length cv, .pointer lp, .pointer tp, .slice An c.nums.length cn, .string c.text] 39)).drewN nq).heap.size = w.heap.size + 1 by simp] at this)
  have hWs : (((w.alloc (.cells #[.int .i64 c.kind, .slice Av c.vals.length cv, .pointer lp, .pointer tp, .slice An c.nums.length cn, .string c.text] 39)).drewN nq).alloc (.cells #[.int .i64 c.kind, .slice Av c.vals.length cv, .pointer lp, .pointer tp, .slice An c.nums.length cn, .string c.text] 39)).heap.size = w.heap.size + 2 := by simp
  have hsz1 : ((w.alloc (.cells #[.int .i64 c.kind, .slice Av c.vals.length cv, .pointer lp, .pointer tp, .slice An c.nums.length cn, .string c.text] 39)).drewN nq).heap.size = w.heap.size + 1 := by simp
  try rw [hsz1]
  clear b2 b3 hbz
  generalize ((w.alloc (.cells #[.int .i64 c.kind, .slice Av c.vals.length cv, .pointer lp, .pointer tp, .slice An c.nums.length cn, .string c.text] 39)).drewN nq).alloc (.cells #[.int .i64 c.kind, .slice Av c.vals.length cv, .pointer lp, .pointer tp, .slice An c.nums.length cn, .string c.text] 39) = W at *
  clear hsz1
  have c1 := blk_cell CB.out 1
  have c4 := blk_cell CB.out 4
  simp only [List.getElem?_toArray, List.getElem?_cons_zero, List.getElem?_cons_succ] at c1 c4
  have hcz := blk_lt CB.out
  have hoz := blk_lt OB.out
  have of1 := blk_frozen OB.out 1
  have of4 := blk_frozen OB.out 4
  obtain ⟨o1v, ho1⟩ : ∃ v, W.cell? ⟨w.heap.size + 1, 1, none⟩ = some v := ⟨_, blk_cell OB.out 1⟩
  obtain ⟨o4v, ho4⟩ : ∃ v, W.cell? ⟨w.heap.size + 1, 4, none⟩ = some v := ⟨_, blk_cell OB.out 4⟩
  have CLV := hidden (fun (W' : World) (hk : Keeps (fun _ => False) W W') => slices_Clone W' Av cv c.vals (HG.out.vals.keeps (K1.out.trans hk (fun _ _ h => h)) (fun _ _ _ _ h => h)) (by omega) HG.out.nv)
  have CLN := hidden (fun (W' : World) (hk : Keeps (fun _ => False) W W') => slices_CloneI W' An cn c.nums (HG.out.nums.keeps (K1.out.trans hk (fun _ _ h => h)) (fun _ _ _ _ h => h)) (by omega) HG.out.nn)
  have SK := hidden (fun (W' : World) (hk : Keeps (fun _ => False) W W') => show W'.cell? ⟨w.heap.size, 1, none⟩ = some (.slice Av c.vals.length cv) ∧ W'.cell? ⟨w.heap.size, 4, none⟩ = some (.slice An c.nums.length cn) from ⟨hk.cell c1 (fun h => h), hk.cell c4 (fun h => h)⟩)
  go_region_held3 (fun W' => W'.cell? ⟨w.heap.size, 1, none⟩ = some (.slice Av c.vals.length cv) ∧ W'.cell? ⟨w.heap.size, 4, none⟩ = some (.slice An c.nums.length cn)) (first | exact SK.out _ (Keeps.refl _ _) | exact SK.out _ ((Keeps.refl _ W).drewN _) | exact SK.out _ K6.out | exact SK.out _ K5.out | exact ⟨setcell_keep (SK.out _ K6.out).1 (by simp), setcell_keep (SK.out _ K6.out).2 (by simp)⟩ | exact ⟨setcell_keep (setcell_keep (SK.out _ K6.out).1 (by simp)) (by simp), setcell_keep (setcell_keep (SK.out _ K6.out).2 (by simp)) (by simp)⟩) (first | (go_at_call 28; refine (CLV.out _ ((Keeps.refl _ W).drewN _)).mono ?_; rintro e w5 ⟨A5, c5, F5, rfl, h1, h2, h3, h4⟩; have R5 := hidden h1; have I5 := hidden h2; have K5 := hidden (((Keeps.refl (fun _ => False) W).drewN _).trans h3 (fun _ _ h => h)); have F5f := hidden h4; clear h1 h2 h3 h4) | (go_at_call 29; refine (CLN.out _ K5.out).mono ?_; rintro e w6 ⟨A6, c6, F6, rfl, h1, h2, h3, h4⟩; have R6 := hidden h1; have I6 := hidden h2; have K56 := hidden h3; have K6 := hidden (K5.out.trans h3 (fun _ _ h => h)); have F6f := hidden h4; have o1 := K6.out.heap OB.out (fun h => h); have o1c := blk_cell o1 1; have o4c := blk_cell o1 4; have o1f := blk_frozen o1 1; have o4f := blk_frozen o1 4; simp only [List.getElem?_toArray, List.getElem?_cons_zero, List.getElem?_cons_succ] at o1c o4c; have hoz6 := blk_lt o1; clear h1 h2 h3 h4 o1))
  have HOZ := hidden (show w.heap.size + 1 < w6.heap.size from hoz6)
  have PB := hidden (show ((w6.setCell ⟨w.heap.size + 1, 1, none⟩ (.slice A5 c.vals.length c5)).setCell ⟨w.heap.size + 1, 4, none⟩ (.slice A6 c.nums.length c6)).heap[w.heap.size + 1]? = some (.cells #[.int .i64 c.kind, .slice A5 c.vals.length c5, .pointer lp, .pointer tp, .slice A6 c.nums.length c6, .string c.text] 39 (0, 0)) from blk_set (blk_set (K6.out.heap OB.out (fun h => h)) 1 _) 4 _)
  have K7 := hidden (show Keeps (fun k => k = w.heap.size + 1) w6 ((w6.setCell ⟨w.heap.size + 1, 1, none⟩ (.slice A5 c.vals.length c5)).setCell ⟨w.heap.size + 1, 4, none⟩ (.slice A6 c.nums.length c6)) from (((SameBut.refl (w.heap.size + 1) w6).set 1 _).set 4 _).keeps)
  clear c1 c4 hcz hoz of1 of4 ho1 ho4 CLV CLN SK OB CB o1c o4c o1f o4f hoz6
  generalize (w6.setCell ⟨w.heap.size + 1, 1, none⟩ (.slice A5 c.vals.length c5)).setCell ⟨w.heap.size + 1, 4, none⟩ (.slice A6 c.nums.length c6) = w7 at *
  have K17 := hidden (show Keeps (fun _ => False) w w7 from (((K1.out.trans K6.out (fun _ _ h => h)).mono (T := fun k => k = w.heap.size + 1) (fun _ _ h => h.elim)).trans K7.out (fun _ _ h => h)).mono (fun i hi h => by omega))
  have hf5 : ∀ k, F5 k → w.heap.size + 2 ≤ k := fun k h => (F5f.out k h).elim (fun h => h.elim) (fun h => by simp at h; omega)
  have hf6 : ∀ k, F6 k → w.heap.size + 2 ≤ k := fun k h => (F6f.out k h).elim (fun h => h.elim) (fun h => by have := K5.out.size; omega)
  have R57 := hidden ((R5.out.keeps K56.out (Apart.no _)).keeps K7.out (fun k h e => by have := hf5 k h; omega))
  have R67 := hidden (R6.out.keeps K7.out (fun k h e => by have := hf6 k h; omega))
  have hz7 := K7.out.size
  have hz6 := K56.out.size
  have hz1 := K17.out.size
  have ap56 : Apart F5 F6 := fun k h1 h2 => (F6f.out k h2).elim (fun h => h.elim) (fun h => by have := I5.out k h1; omega)
  obtain ⟨Fc, hFcd⟩ : ∃ Fc : Nat → Prop, Fc = fun k => k = w.heap.size + 1 ∨ F5 k ∨ Fl k ∨ Ft k ∨ F6 k := ⟨_, rfl⟩
  have HC := hidden (show IsCell w7 (w.heap.size + 1) Fc c from hFcd ▸ cell_made (w := w) (c := c) (lp := lp) (tp := tp) PB.out R57.out R67.out (HG.out.list.keeps K17.out (Apart.no _)) (HG.out.tab.keeps K17.out (Apart.no _)) (fun k h => by have := I5.out k h; omega) (fun k h => by have := I6.out k h; omega) HG.out.il HG.out.it (fun k h => ⟨by have := hf5 k h; omega, by have := hf5 k h; omega⟩) (fun k h => ⟨by have := hf6 k h; omega, by have := hf6 k h; omega⟩) ap56 HG.out.lt (by omega) (by omega) HG.out.small)
  have HFC := hidden (show Apart F Fc from fun k h1 h2 => by
    rw [hFcd] at h2
    have h0 := HFB.out k h1
    rcases h2 with h2 | h2 | h2 | h2 | h2
    · omega
    · have := hf5 k h2; omega
    · exact HG.out.fl k h1 h2
    · exact HG.out.ft k h1 h2
    · have := hf6 k h2; omega)
  have HFCf := hidden (show ∀ k, Fc k → (F k ∨ Fl k ∨ Ft k) ∨ w.heap.size ≤ k from fun k h => by
    rw [hFcd] at h
    rcases h with h | h | h | h | h
    · exact .inr (by omega)
    · have := hf5 k h; exact .inr (by omega)
    · exact .inl (.inr (.inl h))
    · exact .inl (.inr (.inr h))
    · have := hf6 k h; exact .inr (by omega))
  have HX7 := hidden (HX.out.keeps K17.out (Apart.no _))
  have HPB := hidden (blk_lt PB.out)
  generalize hob : w.heap.size + 1 = ob at *
  clear hFcd HX HG R5 R6 R57 R67 I5 I6 K5 K6 K56 K7 K1 F5f F6f hf5 hf6 ap56 PB hWs HOZ hz7 hz6
  have b0 := blk_cell HX7.out.blk 0
  have b1 := blk_cell HX7.out.blk 1
  have b2 := blk_cell HX7.out.blk 2
  have b0f := blk_frozen HX7.out.blk 0
  have b1f := blk_frozen HX7.out.blk 1
  have b2f := blk_frozen HX7.out.blk 2
  simp only [List.getElem?_toArray, List.getElem?_cons_zero, List.getElem?_cons_succ] at b0 b1 b2
  have hbz := blk_lt HX7.out.blk
  have hw1 : IntKind.i64.wrap (s.live + 1) = s.live + 1 := by rw [IntKind.wrap_i64]; omega
  have HFR := hidden hfr
  have hfl : s.fr.length = fs.length + 1 := by rw [hfr]; simp
  have HFL := hidden hfl
  rw [hfl] at b1
  have hw2 : IntKind.i64.wrap ((fs.length : Int) + 1 - 1) = fs.length := by rw [IntKind.wrap_i64]; have := hfs; omega
  obtain ⟨gf, rfl, -, hgfz, fc, -⟩ := row1_cell HX7.out.free (i := fs.length) (v := .int .i64 i) (by rw [hfr]; simp [intCells])
  obtain ⟨gc, rfl, hgc1, hgcz, pc, pcf⟩ := row1_cell HX7.out.cells (i := i) (v := ptr H[i]) (by rw [List.getElem?_map, List.getElem?_eq_getElem hi]; rfl)
  have hcap := HX7.out.cells.cap
  have hfcap := HX7.out.free.cap
  rw [hfl] at hfcap
  have n1 : gc ≠ hb := HX7.out.ne.1 gc rfl
  have n2 : gf ≠ hb := HX7.out.ne.2 gf rfl
  have hHi := hidden hi
  generalize hpv : ptr H[i] = pv at *
  clear hfr hfl hpv
  go_wp2_with fail
  have hbl : Apart Fc (fun k => k = hb ∨ Fam 1 k ∨ Fam 2 k) := fun k h1 h2 => by
    rcases h2 with rfl | h2 | h2
    · exact HFC.out _ HBF.out h1
    · exact HFC.out k (HX7.out.sub 1 k h2) h1
    · exact HFC.out k (HX7.out.sub 2 k h2) h1
  have hkE : Keeps (fun k => k = hb ∨ Fam 1 k ∨ Fam 2 k) w7 (((w7.setCell ⟨hb, 2, none⟩ (.int .i64 (s.live + 1))).setCell ⟨hb, 1, none⟩ (.slice (some ⟨gf, 0, none⟩) fs.length cf)).setCell ⟨gc, i, none⟩ (.pointer (some ⟨ob, 0, none⟩))) := (((Keeps.refl _ w7).setCell (p := ⟨hb, 2, none⟩) (fun _ => .inl rfl) _).setCell (p := ⟨hb, 1, none⟩) (fun _ => .inl rfl) _).setCell (p := ⟨gc, i, none⟩) (fun _ => .inr (.inl hgc1)) _
  have hr1 := ((HX7.out.cells.set (p := ⟨hb, 2, none⟩) HX7.out.ne.1 (.int .i64 (s.live + 1))).set (p := ⟨hb, 1, none⟩) HX7.out.ne.1 (.slice (some ⟨gf, 0, none⟩) fs.length cf))
  have hr2 := hr1.1.stored i (.pointer (some ⟨ob, 0, none⟩))
  have hput := HX7.out.put (p := ob) (i := i) (c := c) (Fc := Fc) (s' := ⟨fs, s.live + 1, s.limit, s.freed, s.runs⟩) (Fam1 := Fam 1) (Fam2 := Fam 2) (H' := H.set i (some (ob, c))) (blk_far (p := ⟨gc, i, none⟩) (blk_set (blk_set HX7.out.blk 2 (.int .i64 (s.live + 1))) 1 (.slice (some ⟨gf, 0, none⟩) fs.length cf)) (fun e => n1 e.symm) (.pointer (some ⟨ob, 0, none⟩))) hkE (HC.out.keeps hkE hbl) HFC.out
    (by
      rw [List.length_set, List.map_set]
      exact ⟨hr2.1, hr1.2⟩) (Fresh.refl _ _) (fun k h => Nat.lt_of_lt_of_le (HX7.out.inw k (HX7.out.sub 1 k h)) hkE.size)
    (fun k h1 h2 => HFC.out k (HX7.out.sub 1 k h2) h1)
    (by
      have hf := ((HX7.out.free.set (p := ⟨hb, 2, none⟩) HX7.out.ne.2 (.int .i64 (s.live + 1))).set (p := ⟨hb, 1, none⟩) HX7.out.ne.2 (.slice (some ⟨gf, 0, none⟩) fs.length cf)).set (p := ⟨gc, i, none⟩) (fun k hk e => HX7.out.ap 1 2 (by decide) gc hgc1 (by have := HX7.out.free.2 k hk; rw [e] at this; exact this)) (.pointer (some ⟨ob, 0, none⟩))
      have hf2 := hf.take (m := fs.length) (by rw [HFL.out]; omega)
      have e : (intCells s.fr).take (fs.length * 1) = intCells fs := by rw [HFR.out, Nat.mul_one, intCells_append]; exact List.take_left' (by simp [intCells])
      rw [e] at hf2
      exact hf2) (fun k h => h)
    (fun j hj q d h => by rwa [List.getElem?_set_ne (fun e => hj e.symm)] at h)
    (fun q d h => by
      rw [List.getElem?_set_self hHi.out] at h
      simp at h
      exact ⟨h.1.symm, h.2.symm⟩)
  refine hR.out _ _ ⟨ob, _, rfl, ⟨_, _, _, hput⟩, (K17.out.mono (T := F) (fun _ _ h => h.elim)).trans (hkE.mono (T := F) (fun k _ h => ?_)) (fun _ _ h => h), fun k h => ?_⟩
  · rcases h with rfl | h | h
    · exact HBF.out
    · exact HX7.out.sub 1 k h
    · exact HX7.out.sub 2 k h
  · rcases h with (h | h) | h
    · exact .inl (.inl h)
    · exact HFCf.out k h
    · exact .inl (.inl (HX7.out.sub 1 k h))
end Go.Proofs.Ytmefdniocgcckaa
/- Layer 6: the heap: a cell more, whatever place it gets. -/
namespace Go.Proofs.Ytmefdniocgcckaa
open Go.RowKit
set_option maxRecDepth 100000

/-- What stands at a place, if a cell is there. -/
def atH (H : List (Option (Nat × Cl))) (j : Nat) : Option (Nat × Cl) := (H[j]?).join
theorem atH_some {H : List (Option (Nat × Cl))} {j : Nat} {x : Nat × Cl} : atH H j = some x ↔ H[j]? = some (some x) := by
  unfold atH
  cases H[j]? with
  | none => simp
  | some o => simp
theorem HOk.new (limit : Int) : HOk [] ⟨[], 0, min (max limit 0) 1048576, 0, 0⟩ :=
  ⟨by simp only; omega, rfl, by simp only; omega, by simp only [List.length_nil]; omega, List.nodup_nil, fun i => by simp⟩
/-- A cell x has come, at place i; all else is as it was. -/
structure NewAt (H H' : List (Option (Nat × Cl))) (i : Nat) (x : Nat × Cl) : Prop where
  here : atH H' i = some x
  was : atH H i = none
  else_ : ∀ j, j ≠ i → atH H' j = atH H j
  len : H.length ≤ H'.length
theorem nodup_len : ∀ (n : Nat) (l : List Int), l.Nodup → (∀ x ∈ l, ∃ k : Nat, x = k ∧ k < n) → l.length ≤ n
  | 0, l, _, h => by
    cases l with
    | nil => exact Nat.le_refl _
    | cons x l => obtain ⟨k, _, hk⟩ := h x (List.mem_cons_self ..); omega
  | n + 1, l, hn, h => by
    by_cases hm : (n : Int) ∈ l
    · have h1 := nodup_len n (l.erase n) (hn.erase _) (fun x hx => by
        obtain ⟨k, rfl, hk⟩ := h x (List.mem_of_mem_erase hx)
        refine ⟨k, rfl, ?_⟩
        have : k ≠ n := by
          rintro rfl
          exact ((List.Nodup.mem_erase_iff hn).1 hx).1 rfl
        omega)
      have h2 := List.length_erase_of_mem hm
      omega
    · have h1 := nodup_len n l hn (fun x hx => by
        obtain ⟨k, rfl, hk⟩ := h x hx
        refine ⟨k, rfl, ?_⟩
        have : k ≠ n := by rintro rfl; exact hm hx
        omega)
      omega
theorem HOk.fr_len {H : List (Option (Nat × Cl))} {s : HSt} (h : HOk H s) : s.fr.length ≤ H.length := by
  exact nodup_len _ _ h.nodup (fun x hx => by
    obtain ⟨n, rfl, hn⟩ := (h.free x).1 hx
    exact ⟨n, rfl, (List.getElem?_eq_some_iff.1 hn).1⟩)
theorem HOk.end_ {H : List (Option (Nat × Cl))} {s : HSt} (h : HOk H s) (hf : s.fr = []) (hl : s.live < s.limit) (x : Nat × Cl) : HOk (H ++ [some x]) ⟨[], s.live + 1, s.limit, s.freed, s.runs⟩ ∧ NewAt H (H ++ [some x]) H.length x := by
  have hall : ∀ n : Nat, H[n]? ≠ some none := fun n hn => by
    have := (h.free n).2 ⟨n, rfl, hn⟩
    rw [hf] at this; simp at this
  have hc : H.countP (·.isSome) = H.length := by
    rw [List.countP_eq_length]
    intro a ha
    obtain ⟨n, hn, rfl⟩ := List.mem_iff_getElem.1 ha
    have := hall n
    rw [List.getElem?_eq_getElem hn] at this
    cases hh : H[n] with
    | none => exact absurd (by rw [hh]) this
    | some y => rfl
  have hlv := h.live
  rw [hc] at hlv
  refine ⟨⟨h.lim, ?_, by show s.live + 1 ≤ s.limit; omega, by show ((H ++ [some x]).length : Int) ≤ s.limit; rw [List.length_append, List.length_singleton]; omega, List.nodup_nil, fun i => ?_⟩, ?_, ?_, fun j hj => ?_, by simp⟩
  · show s.live + 1 = _
    rw [List.countP_append, hc, h.live, hc]; rfl
  · simp only [List.not_mem_nil, false_iff]
    rintro ⟨n, -, hn⟩
    rcases Nat.lt_trichotomy n H.length with h1 | h1 | h1
    · rw [List.getElem?_append_left h1] at hn; exact hall n hn
    · subst h1; rw [List.getElem?_append_right (Nat.le_refl _), Nat.sub_self] at hn; simp at hn
    · rw [List.getElem?_eq_none (by simp; omega)] at hn; cases hn
  · rw [atH_some, List.getElem?_append_right (Nat.le_refl _), Nat.sub_self]; rfl
  · unfold atH; rw [List.getElem?_eq_none (Nat.le_refl _)]; rfl
  · unfold atH
    rcases Nat.lt_or_ge j H.length with h1 | h1
    · rw [List.getElem?_append_left h1]
    · rw [List.getElem?_eq_none (by simp; omega), List.getElem?_eq_none h1]
theorem HOk.put {H : List (Option (Nat × Cl))} {s : HSt} (h : HOk H s) {fs : List Int} {i : Nat} (hf : s.fr = fs ++ [(i : Int)]) (hl : s.live < s.limit) (x : Nat × Cl) : i < H.length ∧ HOk (H.set i (some x)) ⟨fs, s.live + 1, s.limit, s.freed, s.runs⟩ ∧ NewAt H (H.set i (some x)) i x := by
  obtain ⟨n, hn, hi⟩ := (h.free i).1 (by rw [hf]; simp)
  obtain rfl : i = n := by omega
  have hil := (List.getElem?_eq_some_iff.1 hi).1
  have hie : H[i] = none := (List.getElem?_eq_some_iff.1 hi).2
  have hnd := h.nodup
  rw [hf, List.nodup_append] at hnd
  obtain ⟨nd1, -, nd3⟩ := hnd
  have hni : (i : Int) ∉ fs := fun hm => nd3 _ hm _ (List.mem_singleton.2 rfl) rfl
  refine ⟨hil, ⟨h.lim, ?_, by show s.live + 1 ≤ s.limit; omega, by show ((H.set i _).length : Int) ≤ s.limit; rw [List.length_set]; exact h.len, nd1, fun k => ?_⟩, ?_, ?_, fun j hj => ?_, by simp⟩
  · show s.live + 1 = _
    rw [List.countP_set hil, hie, h.live]
    simp
  · constructor
    · intro hk
      obtain ⟨m, rfl, hm⟩ := (h.free k).1 (by rw [hf]; exact List.mem_append_left _ hk)
      refine ⟨m, rfl, ?_⟩
      rw [List.getElem?_set_ne (fun e => hni (by rw [e]; exact hk))]
      exact hm
    · rintro ⟨m, rfl, hm⟩
      by_cases e : i = m
      · subst e; rw [List.getElem?_set_self hil] at hm; simp at hm
      · rw [List.getElem?_set_ne e] at hm
        have := (h.free m).2 ⟨m, rfl, hm⟩
        rw [hf] at this
        rcases List.mem_append.1 this with h1 | h1
        · exact h1
        · simp at h1; omega
  · rw [atH_some, List.getElem?_set_self hil]
  · unfold atH; rw [hi]; rfl
  · unfold atH; rw [List.getElem?_set_ne (fun e => hj e.symm)]
theorem heap_Alloc (w : World) (F : Nat → Prop) (hb : Nat) (H : List (Option (Nat × Cl))) (s : HSt) (c : Cl) (Av An lp tp : Option Addr) (cv cn : Nat) (Fl Ft : Nat → Prop) (h : IsHeap w F hb H s) (ho : HOk H s) (hg : Given w F Fl Ft c Av An lp tp) (hk : 1 ≤ c.kind ∧ c.kind < 11) (hf : s.live < s.limit) :
    Calls Try.prog 10 #[.pointer (some ⟨hb, 0, none⟩), .agg #[.int .i64 c.kind, .slice Av c.vals.length cv, .pointer lp, .pointer tp, .slice An c.nums.length cn, .string c.text]] w fun e w' => ∃ (i p : Nat) (F' : Nat → Prop) (H' : List (Option (Nat × Cl))) (s' : HSt), e = .returned (.tuple #[.int .i64 i, .int .i64 0]) ∧ IsHeap w' F' hb H' s' ∧ HOk H' s' ∧ NewAt H H' i (p, c) ∧ s'.live = s.live + 1 ∧ s'.limit = s.limit ∧ s'.freed = s.freed ∧ s'.runs = s.runs ∧ i < 1048576 ∧ Keeps F w w' ∧ Fresh (fun k => F k ∨ Fl k ∨ Ft k) F' w := by
  have hlv := ho.live
  have hli := ho.lim
  have hle := ho.len
  rcases List.eq_nil_or_concat s.fr with hfr | ⟨fs, x, hfr⟩
  · refine (heap_Alloc_end w F hb H s c Av An lp tp cv cn Fl Ft h hg hk hf ⟨by omega, hli.2⟩ (by omega) hfr).mono ?_
    rintro e w' ⟨p, F', rfl, h1, h2, h3⟩
    obtain ⟨g1, g2⟩ := ho.end_ hfr hf (p, c)
    have hl2 := g1.len
    simp only [List.length_append, List.length_singleton] at hl2
    exact ⟨H.length, p, F', _, _, rfl, h1, g1, g2, rfl, rfl, rfl, rfl, by omega, h2, h3⟩
  · rw [List.concat_eq_append] at hfr
    obtain ⟨i, rfl, -⟩ := (ho.free x).1 (by rw [hfr]; simp)
    have hfl := ho.fr_len
    rw [hfr, List.length_append, List.length_singleton] at hfl
    obtain ⟨hi, -⟩ := ho.put hfr hf (0, c)
    refine (heap_Alloc_free w F hb H s c Av An lp tp cv cn Fl Ft h hg hk hf ⟨by omega, hli.2⟩ (by omega) fs i hfr hi (by omega)).mono ?_
    rintro e w' ⟨p, F', rfl, h1, h2, h3⟩
    obtain ⟨-, g1, g2⟩ := ho.put hfr hf (p, c)
    exact ⟨i, p, F', _, _, rfl, h1, g1, g2, rfl, rfl, rfl, rfl, by omega, h2, h3⟩
end Go.Proofs.Ytmefdniocgcckaa
