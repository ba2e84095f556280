/- Texts that belong together: Base StrP LexP Txt StrA StrB StrC StrD StrE Shelf Pieces Bldr StrF LexA LexB LexC LexK LexD LexE LexF LexG LexN LexH. -/
import Derived.WalkKit
import Derived.Lib.AppendStr
import Derived.Deep.Draws
import Derived.Laws.BytesArg
import Derived.Deep.AppendSrc
import Derived.Deep.AppendLies
import Derived.Deep.RegionLaw
import Derived.Deep.QuietTactic
import Derived.BigQuiet
import Derived.BigRegion
import Derived.WalkSpells
import Derived.Deep.LoopGhost
import Derived.Deep.RegionWith
import Derived.Lib.Strings
import Derived.Lib.ConvBytes
import Derived.Lib.Index
import Derived.Test.YtafndbmjohhhpaaDoorProg
import Derived.Shelf.Strings.Builder1
import Derived.Shelf.Strings.Builder2
import Derived.Shelf.Strings.Trim
import Derived.Shelf.Small.Utf8
import Derived.Shelf.Small.Strs
import Derived.Shelf.Small.Wraps
import Derived.Shelf.Strings.BuilderF
import Derived.Shelf.Strings.BuilderK
import Derived.Shelf.Strings.Builder2Cap
import Derived.Shelf.Strings.Search1
import Derived.Shelf.Strings.Search2
import Derived.Shelf.Strings.Search3
import Derived.Shelf.Strings.Count
import Derived.Shelf.LaysM
import Derived.Shelf.Strings.Shaped
import Derived.Shelf.Strings.Prefix
import Derived.Shelf.Strings.Split
import Derived.Shelf.Strings.SplitShaped
import Derived.Shelf.Strings.Runes
import Derived.Shelf.Strings.AsciiSet
import Derived.Shelf.Bits.Mul64
import Derived.Shelf.Strings.Repeat
import Derived.Shelf.Unicode.DecodeSlow
import Derived.Shelf.Strings.BuilderCap
import Derived.Lib.Bytealg
import Derived.Lib.Join
import Derived.WalkMore
import Derived.Laws.Externs
import Derived.Deep.RegionHeld3
import Derived.Lib.TrimByte
import Derived.ProofKit
import Derived.OpenShut
import Derived.ShutString
import Derived.ChangeOld
import Derived.Below
import Derived.SizedLaws
import Derived.SliceStrings
import Derived.ChangeArms
set_option linter.unusedSimpArgs false
set_option linter.unusedVariables false
namespace Go.Proofs.YtafndbmjohhhpaaDoor
open Go.RowKit

structure Keeps (S : Nat → Prop) (w w' : World) : Prop where
  os : w'.os = w.os
  tape : w'.tape = w.tape
  output : w'.output = w.output
  size : w.heap.size ≤ w'.heap.size
  block : ∀ k, k < w.heap.size → ¬ S k → w'.heap[k]? = w.heap[k]?

theorem Keeps.refl (S : Nat → Prop) (w : World) : Keeps S w w := ⟨rfl, rfl, rfl, Nat.le_refl _, fun _ _ _ => rfl⟩
theorem Keeps.trans {S T : Nat → Prop} {a b c : World} (h : Keeps S a b) (k : Keeps T b c) (hs : ∀ i, i < a.heap.size → T i → S i) : Keeps S a c :=
  ⟨k.os.trans h.os, k.tape.trans h.tape, k.output.trans h.output, Nat.le_trans h.size k.size, fun i hi hn => (k.block i (Nat.lt_of_lt_of_le hi h.size) (fun ht => hn (hs i hi ht))).trans (h.block i hi hn)⟩
theorem Keeps.mono {S T : Nat → Prop} {a b : World} (h : Keeps S a b) (hs : ∀ i, i < a.heap.size → S i → T i) : Keeps T a b :=
  ⟨h.os, h.tape, h.output, h.size, fun i hi hn => h.block i hi (fun x => hn (hs i hi x))⟩
theorem Keeps.drew {S : Nat → Prop} {a w : World} (h : Keeps S a w) : Keeps S a w.drew := ⟨h.os, h.tape, h.output, h.size, h.block⟩
theorem Keeps.drewN {S : Nat → Prop} {a w : World} (h : Keeps S a w) (n : Nat) : Keeps S a (w.drewN n) := ⟨h.os, h.tape, h.output, h.size, h.block⟩
theorem Keeps.alloc {S : Nat → Prop} {a w : World} (h : Keeps S a w) (o : Obj) : Keeps S a (w.alloc o) :=
  ⟨h.os, h.tape, h.output, Nat.le_trans h.size (by simp), fun i hi hn => (Below.heap_alloc _ _ _ (Nat.lt_of_lt_of_le hi h.size)).trans (h.block i hi hn)⟩
theorem Keeps.setCell {S : Nat → Prop} {a w : World} (h : Keeps S a w) {p : Addr} (hp : p.block < a.heap.size → S p.block) (u : Value) : Keeps S a (w.setCell p u) :=
  ⟨h.os, h.tape, h.output, Nat.le_trans h.size (by simp [World.setCell]), fun i hi hn => by
    rw [Below.heap_setCell _ _ _ _ (fun e => hn (by rw [e]; exact hp (by rw [← e]; exact hi)))]
    exact h.block i hi hn⟩
theorem Keeps.grown {S : Nat → Prop} {a w w' : World} {row : Option Nat} (h : Keeps S a w) (hg : w.grownBy w' row) (hr : ∀ k, row = some k → k < a.heap.size → S k) : Keeps S a w' :=
  ⟨hg.os.trans h.os, hg.tape.trans h.tape, hg.output.trans h.output, Nat.le_trans h.size hg.size, fun i hi hn => (hg.block i (Nat.lt_of_lt_of_le hi h.size) (fun e => hn (hr i e.symm hi))).trans (h.block i hi hn)⟩
theorem Keeps.of_below {B : Nat} {a w : World} (h : Below B a w) : Keeps (fun k => B ≤ k) a w := ⟨h.os, h.tape, h.output, h.size, fun i _ hn => h.block i (Nat.lt_of_not_le hn)⟩
theorem Keeps.below {S : Nat → Prop} {B : Nat} {a w : World} (h : Keeps S a w) (hB : B ≤ a.heap.size) (hs : ∀ k, S k → B ≤ k) : Below B a w :=
  ⟨h.os, h.tape, h.output, h.size, fun i hi => h.block i (Nat.lt_of_lt_of_le hi hB) (fun x => Nat.lt_irrefl _ (Nat.lt_of_lt_of_le hi (hs i x)))⟩
theorem Keeps.cell {S : Nat → Prop} {w w' : World} (h : Keeps S w w') {p : Addr} {v : Value} (hc : w.cell? p = some v) (hn : ¬ S p.block) : w'.cell? p = some v :=
  (World.cell?_of_block (w := w) (h.block p.block (World.block_lt_of_cell? w p hc) hn)).trans hc
theorem Keeps.heap {S : Nat → Prop} {w w' : World} (h : Keeps S w w') {k : Nat} {o : Obj} (hc : w.heap[k]? = some o) (hn : ¬ S k) : w'.heap[k]? = some o :=
  (h.block k (Array.getElem?_eq_some_iff.1 hc).1 hn).trans hc

def Fresh (F F' : Nat → Prop) (w : World) : Prop := ∀ k, F' k → F k ∨ w.heap.size ≤ k
def Apart (F G : Nat → Prop) : Prop := ∀ k, F k → ¬ G k
def In (F : Nat → Prop) (w : World) : Prop := ∀ k, F k → k < w.heap.size
theorem Apart.symm {F G : Nat → Prop} (h : Apart F G) : Apart G F := fun k hg hf => h k hf hg
theorem Apart.fresh {F F' G : Nat → Prop} {w : World} (h : Apart F G) (hf : Fresh F F' w) (hG : In G w) : Apart F' G := fun k hk hg => by
  rcases hf k hk with x | x
  · exact h k x hg
  · exact absurd (hG k hg) (by omega)
theorem Apart.none (G : Nat → Prop) : Apart (fun _ => False) G := fun _ h => h.elim
theorem In.keeps {F S : Nat → Prop} {w w' : World} (h : In F w) (hk : Keeps S w w') : In F w' := fun k x => Nat.lt_of_lt_of_le (h k x) hk.size
theorem Fresh.refl (F : Nat → Prop) (w : World) : Fresh F F w := fun _ h => .inl h
theorem Fresh.trans {F G H S : Nat → Prop} {w w1 : World} (h : Fresh F G w) (k : Fresh G H w1) (hk : Keeps S w w1) : Fresh F H w := fun i hi => by
  rcases k i hi with x | x
  · exact h i x
  · exact .inr (Nat.le_trans hk.size x)
theorem Keeps.fresh {F F' : Nat → Prop} {w w1 w2 : World} (h : Keeps F w w1) (hf : Fresh F F' w) (k : Keeps F' w1 w2) : Keeps F w w2 :=
  h.trans k (fun i hi hx => by rcases hf i hx with x | x; exact x; omega)

def Row (w : World) (F : Nat → Prop) (e size : Nat) (v : Value) (n : Nat) (xs : List Value) : Prop := w.ownsRow 0 e size v n xs ∧ ∀ k, v.ownBlock = some k → F k
theorem Row.nil (w : World) (F : Nat → Prop) (e size : Nat) : Row w F e size (.slice none 0 0) 0 [] := ⟨w.ownsRow_nil 0 e size, by simp [Value.ownBlock]⟩
theorem Row.lt {w : World} {F : Nat → Prop} {e size n : Nat} {v : Value} {xs : List Value} (h : Row w F e size v n xs) : ∀ k, v.ownBlock = some k → k < w.heap.size := fun k hk => (h.1.lt k hk).2
theorem Row.mono {w : World} {F G : Nat → Prop} {e size n : Nat} {v : Value} {xs : List Value} (h : Row w F e size v n xs) (hG : ∀ k, k < w.heap.size → F k → G k) : Row w G e size v n xs := ⟨h.1, fun k hk => hG k (h.lt k hk) (h.2 k hk)⟩
theorem ownsRow_move {w w1 : World} {base e size n : Nat} {v : Value} {xs : List Value} (h : w.ownsRow base e size v n xs) (hm : ∀ k, v.ownBlock = some k → w1.heap[k]? = w.heap[k]?) : w1.ownsRow base e size v n xs := by
  refine ⟨h.1, ?_⟩
  rcases h.2 with h2 | ⟨g, cap, cur, rfl, hb, hh, r⟩
  · exact .inl h2
  · exact .inr ⟨g, cap, cur, rfl, hb, (hm g rfl).trans hh, r⟩
theorem Row.keeps {w w1 : World} {F S : Nat → Prop} {e size n : Nat} {v : Value} {xs : List Value} (h : Row w F e size v n xs) (hk : Keeps S w w1) (hn : Apart F S) : Row w1 F e size v n xs :=
  ⟨ownsRow_move h.1 (fun k hb => hk.block k (h.lt k hb) (hn k (h.2 k hb))), h.2⟩
theorem blk_cell {w : World} {g : Nat} {t : TypeId} {cs : Array Value} {z : Nat × Nat} (h : w.heap[g]? = some (.cells cs t z)) (i : Nat) : w.cell? ⟨g, i, none⟩ = cs[i]? := cell_of_row w g i cs t z h
theorem blk_frozen {w : World} {g : Nat} {t : TypeId} {cs : Array Value} (h : w.heap[g]? = some (.cells cs t (0, 0))) (i : Nat) : w.frozen? ⟨g, i, none⟩ = false := by simp [World.frozen?, h]
theorem blk_lt {w : World} {g : Nat} {o : Obj} (h : w.heap[g]? = some o) : g < w.heap.size := (Array.getElem?_eq_some_iff.1 h).1
theorem blk_set {w : World} {g : Nat} {t : TypeId} {cs : Array Value} (h : w.heap[g]? = some (.cells cs t (0, 0))) (i : Nat) (u : Value) : (w.setCell ⟨g, i, none⟩ u).heap[g]? = some (.cells (cs.setIfInBounds i u) t (0, 0)) := by
  simp [World.setCell, Array.getElem?_modify, h]
theorem blk_alloc {w : World} {g : Nat} {o : Obj} (h : w.heap[g]? = some o) (o' : Obj) : (w.alloc o').heap[g]? = some o := (Below.heap_alloc w o' g (blk_lt h)).trans h
theorem blk_new (w : World) (o : Obj) : (w.alloc o).heap[w.heap.size]? = some o := heap_alloc_new w o
theorem blk_ne {w : World} {g g' : Nat} {t t' : TypeId} {cs cs' : Array Value} {z z' : Nat × Nat} (h : w.heap[g]? = some (.cells cs t z)) (h' : w.heap[g']? = some (.cells cs' t' z')) (hne : t ≠ t') : g ≠ g' := by
  rintro rfl
  rw [h] at h'
  simp at h'
  exact hne h'.2.1
theorem own_typed {w : World} {base e size n : Nat} {v : Value} {xs : List Value} (h : w.ownsRow base e size v n xs) (k : Nat) (hk : v.ownBlock = some k) : ∃ cs, w.heap[k]? = some (.cells cs e (0, 0)) := by
  rcases h.2 with ⟨rfl, _⟩ | ⟨g, cap, cur, rfl, _, hg, _⟩
  · simp [Value.ownBlock] at hk
  · simp [Value.ownBlock] at hk
    subst hk
    exact ⟨cur, hg⟩
theorem own_ne {w : World} {base e size n : Nat} {v : Value} {xs : List Value} (h : w.ownsRow base e size v n xs) {g t : Nat} {cs : Array Value} {z : Nat × Nat} (hg : w.heap[g]? = some (.cells cs t z)) (hne : e ≠ t) : ∀ k, v.ownBlock = some k → k ≠ g := by
  rintro k hk rfl
  obtain ⟨cs', h'⟩ := own_typed h k hk
  exact blk_ne h' hg hne rfl
theorem Row.set {w : World} {F : Nat → Prop} {e size n : Nat} {v : Value} {xs : List Value} (h : Row w F e size v n xs) {p : Addr} (hn : ∀ k, v.ownBlock = some k → k ≠ p.block) (u : Value) : Row (w.setCell p u) F e size v n xs :=
  ⟨ownsRow_move h.1 (fun k hb => Below.heap_setCell w p u k (hn k hb)), h.2⟩
theorem Row.drew {w : World} {F : Nat → Prop} {e size n : Nat} {v : Value} {xs : List Value} (h : Row w F e size v n xs) : Row w.drew F e size v n xs := ⟨ownsRow_move h.1 (fun _ _ => rfl), h.2⟩
theorem Row.drewN {w : World} {F : Nat → Prop} {e size n : Nat} {v : Value} {xs : List Value} (h : Row w F e size v n xs) (m : Nat) : Row (w.drewN m) F e size v n xs := ⟨ownsRow_move h.1 (fun _ _ => rfl), h.2⟩
theorem Row.alloc {w : World} {F : Nat → Prop} {e size n : Nat} {v : Value} {xs : List Value} (h : Row w F e size v n xs) (o : Obj) : Row (w.alloc o) F e size v n xs := ⟨ownsRow_move h.1 (fun k hb => Below.heap_alloc w o k (h.lt k hb)), h.2⟩
theorem Row.ne {w : World} {F : Nat → Prop} {e size n : Nat} {v : Value} {xs : List Value} (h : Row w F e size v n xs) {g t : Nat} {cs : Array Value} {z : Nat × Nat} (hg : w.heap[g]? = some (.cells cs t z)) (hne : e ≠ t) : ∀ k, v.ownBlock = some k → k ≠ g := own_ne h.1 hg hne

theorem Row.cap {w : World} {F : Nat → Prop} {e size n c : Nat} {A : Option Addr} {xs : List Value} (h : Row w F e size (.slice A n c) n xs) : n ≤ c := by
  rcases h.1.2 with ⟨h1, rfl⟩ | ⟨g, cap, cur, h1, _, _, hc, _⟩
  · exact Nat.zero_le _
  · simp at h1
    omega
theorem Row.take {w : World} {F : Nat → Prop} {e size n m c : Nat} {A : Option Addr} {xs : List Value} (h : Row w F e size (.slice A n c) n xs) (hm : m ≤ n) : Row w F e size (.slice A m c) m (xs.take (m * size)) := by
  have hl : (xs.take (m * size)).length = m * size := by
    rw [List.length_take, h.1.1]
    exact Nat.min_eq_left (Nat.mul_le_mul_right _ hm)
  refine ⟨⟨hl, ?_⟩, fun k hk => h.2 k (by cases A with | none => simp [Value.ownBlock] at hk | some a => exact hk)⟩
  rcases h.1.2 with ⟨h1, rfl⟩ | ⟨g, cap, cur, h1, hb, hg, hc, hx, hs, ht⟩
  · simp at h1
    obtain rfl : m = 0 := by omega
    exact .inl ⟨by simp [h1], rfl⟩
  · simp at h1
    obtain ⟨rfl, rfl⟩ := h1
    refine .inr ⟨g, c, cur, rfl, hb, hg, by omega, hx, hs, ?_⟩
    rw [← ht, List.take_take]
    congr 1
    exact (Nat.min_eq_left (Nat.mul_le_mul_right _ hm)).symm

/-! append, of whatever, onto a row of the call's own -/
section
variable {P : Program}
theorem app_run (w : World) (F : Nat → Prop) (t tx ty e : TypeId) (z : Value) (size bytes : Nat) (ht : P.underlying t = some (.slice e)) (hinfo : (P.info? e).map (fun i => (i.zero, i.size, i.bytes)) = some (some z, size, bytes)) (hzs : z.cells.size = size) (hsz : 0 < size)
    (v : Value) (n : Nat) (xs : List Value) (hR : Row w F e size v n xs) (x : Value) (m : Nat) (news : List Value) (hs : Src P size tx x m news w) (hb0 : n + m ≤ 9223372036854775807) (hbytes : (n + m) * bytes ≤ 140737488355328) :
    ∃ A c w1, (Builtin.append_ #[t, tx] ty #[v, x]).run P w = .ok (.slice A (n + m) c) w1 ∧ Row w1 (fun k => F k ∨ w.heap.size ≤ k) e size (.slice A (n + m) c) (n + m) (xs ++ news) ∧ Keeps (fun k => v.ownBlock = some k) w w1 := by
  obtain ⟨i, hi, hz, hsize, hby⟩ := info_parts hinfo
  subst hsize hby
  have hlen : (xs ++ news).length = (n + m) * i.size := by rw [List.length_append, hR.1.1, hs.newsLen, Nat.add_mul]
  have hmax : n + m ≤ maxLen := by unfold maxLen; omega
  have grown : ∀ (old : Nat), old < n + m → ∃ A c, (.slice (some ⟨w.heap.size, 0, none⟩) (n + m) (grownCap w (n + m) old e) : Value) = .slice A (n + m) c ∧
      Row (w.drew.alloc (.cells ((xs ++ news).toArray ++ Builtin.zeroCells z.cells (grownCap w (n + m) old e - (n + m))) e)) (fun k => F k ∨ w.heap.size ≤ k) e i.size (.slice A (n + m) c) (n + m) (xs ++ news) := by
    intro old ho
    have hge := grownCap_ge w (n + m) old e
    have hcm : grownCap w (n + m) old e ≤ maxLen := grownCap_le_maxLen w (n + m) old e hmax
    refine ⟨_, _, rfl, ⟨hlen, .inr ⟨w.heap.size, _, _, rfl, Nat.zero_le _, heap_alloc_new w.drew _, hge, hcm, ?_, ?_⟩⟩, fun k hk => ?_⟩
    · simp only [Array.size_append, List.size_toArray, size_zeroCells, hzs, hlen]
      rw [← Nat.add_mul]
      congr 1
      omega
    · simp only [Array.toList_append]
      rw [← hlen]
      exact List.take_left
    · simp [Value.ownBlock] at hk
      omega
  rcases hR.1.2 with ⟨rfl, rfl⟩ | ⟨g, cap, cur, rfl, _, hg, hnc, hcm, hcs, htake⟩
  · obtain rfl : xs = [] := List.eq_nil_of_length_eq_zero (by simpa using hR.1.1)
    by_cases hm : m = 0
    · subst hm
      obtain rfl : news = [] := List.eq_nil_of_length_eq_zero (by simpa using hs.newsLen)
      refine ⟨none, 0, w, ?_, Row.nil _ _ _ _, Keeps.refl _ _⟩
      rcases hs.kind with ⟨e', hk⟩ | hk <;> simp [Builtin.append_, run_underlying ht, run_underlying hk, sizeOf, typeInfo, hi, hs.len, hs.cells]
    · have hr := run_append_grow_src w t tx ty e i z ht hi hz none 0 0 [] (run_firstCells_none w.drew i.size 0 0 0) x m news hs (by omega) (by omega) (growslice_fits (by omega) hbytes)
      obtain ⟨A, c, he, hrow⟩ := grown 0 (by omega)
      exact ⟨A, c, _, by rw [← he]; exact hr, hrow, (Keeps.refl _ _).drew.alloc _⟩
  · by_cases hroom : n + m ≤ cap
    · have hfit : n * i.size + news.length ≤ cur.size := by rw [hs.newsLen, hcs, ← Nat.add_mul]; exact Nat.mul_le_mul_right _ hroom
      have hrun : (Builtin.append_ #[t, tx] ty #[.slice (some ⟨g, 0, none⟩) n cap, x]).run P w = .ok (.slice (some ⟨g, 0, none⟩) (n + m) cap) (w.setRow g (cur.toList.take (n * i.size) ++ news ++ cur.toList.drop (n * i.size + news.length)).toArray) := by
        have hst := run_storeCells_at P g (n * i.size) e news 0 cur w hg (by simpa using hfit) hs.one
        simp only [Nat.add_zero] at hst
        rcases hs.kind with ⟨e', hk⟩ | hk <;> simp [Builtin.append_, run_underlying ht, run_underlying hk, sizeOf, typeInfo, hi, hs.len, hroom, hs.cells, Addr.add_lit, hst]
      refine ⟨_, _, _, hrun, ⟨⟨hlen, .inr ⟨g, cap, _, rfl, Nat.zero_le _, setRow_heap w g cur _ e _ hg, hroom, hcm, ?_, ?_⟩⟩, fun k hk => .inl (hR.2 k hk)⟩, ⟨rfl, rfl, rfl, by simp, fun k _ hk => setRow_other w g k _ (fun e => hk (by simp [Value.ownBlock, e]))⟩⟩
      · simp only [List.size_toArray, List.length_append, List.length_take, List.length_drop, Array.length_toList]
        omega
      · rw [htake, ← hlen]
        exact List.take_left
    · have holds : ∀ j u, xs[j]? = some u → w.cell? ((⟨g, 0, none⟩ : Addr).add j) = some u := hR.1.cells (g := g) rfl
      have hr := run_append_grow_src w t tx ty e i z ht hi hz (some ⟨g, 0, none⟩) n cap xs (run_firstCells_some w.drew i.size n ⟨g, 0, none⟩ n cap xs hR.1.1 (by simpa using holds)) x m news hs (by omega) (by omega) (growslice_fits (by omega) hbytes)
      obtain ⟨A, c, he, hrow⟩ := grown cap (by omega)
      exact ⟨A, c, _, by rw [← he]; exact hr, hrow, (Keeps.refl _ _).drew.alloc _⟩

variable {ops : Array Oper} {o : Oper} {a : Act} {Q : Exit → Act → World → Prop} {w : World}
theorem app_wp {K : Act → World → Prop} (F : Nat → Prop) (s x : Operand) (t tx e : TypeId) (z : Value) (size bytes : Nat) (ho : o.op = .call { callee := .builtin .append, args := #[s, x], argTypes := #[t, tx] })
    (ht : P.underlying t = some (.slice e)) (hinfo : (P.info? e).map (fun i => (i.zero, i.size, i.bytes)) = some (some z, size, bytes)) (hzs : z.cells.size = size) (hsz : 0 < size)
    (v : Value) (n : Nat) (xs : List Value) (hv : a.eval s = v) (hR : Row w F e size v n xs) (xv : Value) (hx : a.eval x = xv) (m : Nat) (news : List Value) (hs : Src P size tx xv m news w) (hb0 : n + m ≤ 9223372036854775807) (hbytes : (n + m) * bytes ≤ 140737488355328)
    (h : ∀ A c w1, Row w1 (fun k => F k ∨ w.heap.size ≤ k) e size (.slice A (n + m) c) (n + m) (xs ++ news) → Keeps (fun k => v.ownBlock = some k) w w1 → K (a.put o.dst (.slice A (n + m) c)) w1) : o.wp P a w K Q := by
  obtain ⟨A, c, w1, hr, h1, h2⟩ := app_run w F t tx o.type e z size bytes ht hinfo hzs hsz v n xs hR xv m news hs hb0 hbytes
  unfold Oper.wp execOp
  simp only [ho, resolve, invoke, builtin, Sem.run_bind, Sem.run_pure, Result.andThen_ok, List.map_toArray, List.map_cons, List.map_nil, hv, hx, hr]
  exact h A c w1 h1 h2
theorem app_list {rest : List Oper} (hg : o.guard = none) (F : Nat → Prop) (s x : Operand) (t tx e : TypeId) (z : Value) (size bytes : Nat) (ho : o.op = .call { callee := .builtin .append, args := #[s, x], argTypes := #[t, tx] })
    (ht : P.underlying t = some (.slice e)) (hinfo : (P.info? e).map (fun i => (i.zero, i.size, i.bytes)) = some (some z, size, bytes)) (hzs : z.cells.size = size) (hsz : 0 < size)
    (v : Value) (n : Nat) (xs : List Value) (hv : a.eval s = v) (hR : Row w F e size v n xs) (xv : Value) (hx : a.eval x = xv) (m : Nat) (news : List Value) (hs : Src P size tx xv m news w) (hb0 : n + m ≤ 9223372036854775807) (hbytes : (n + m) * bytes ≤ 140737488355328)
    (h : ∀ A c w1, Row w1 (fun k => F k ∨ w.heap.size ≤ k) e size (.slice A (n + m) c) (n + m) (xs ++ news) → Keeps (fun k => v.ownBlock = some k) w w1 → wpList P ops Q rest (a.put o.dst (.slice A (n + m) c)) w1) : wpList P ops Q (o :: rest) a w :=
  wpList_plain hg fun _ hK => app_wp F s x t tx e z size bytes ho ht hinfo hzs hsz v n xs hv hR xv hx m news hs hb0 hbytes fun A c w1 h1 h2 => hK _ _ (h A c w1 h1 h2)
theorem app_step {K : Act → World → Prop} {E : Prop} (hg : o.guard = none) (F : Nat → Prop) (s x : Operand) (t tx e : TypeId) (z : Value) (size bytes : Nat) (ho : o.op = .call { callee := .builtin .append, args := #[s, x], argTypes := #[t, tx] })
    (ht : P.underlying t = some (.slice e)) (hinfo : (P.info? e).map (fun i => (i.zero, i.size, i.bytes)) = some (some z, size, bytes)) (hzs : z.cells.size = size) (hsz : 0 < size)
    (v : Value) (n : Nat) (xs : List Value) (hv : a.eval s = v) (hR : Row w F e size v n xs) (xv : Value) (hx : a.eval x = xv) (m : Nat) (news : List Value) (hs : Src P size tx xv m news w) (hb0 : n + m ≤ 9223372036854775807) (hbytes : (n + m) * bytes ≤ 140737488355328)
    (h : ∀ A c w1, Row w1 (fun k => F k ∨ w.heap.size ≤ k) e size (.slice A (n + m) c) (n + m) (xs ++ news) → Keeps (fun k => v.ownBlock = some k) w w1 → K (a.put o.dst (.slice A (n + m) c)) w1) :
    if Region.wanted o (yielded ops a.tmps) = true then Oper.wp P o a w K Q else E := by
  have hw : Region.wanted o (yielded ops a.tmps) = true := by simp [Region.wanted, hg]
  rw [if_pos hw]
  exact app_wp F s x t tx e z size bytes ho ht hinfo hzs hsz v n xs hv hR xv hx m news hs hb0 hbytes h
end

structure SameBut (b : Nat) (w1 w2 : World) : Prop where
  os : w2.os = w1.os
  tape : w2.tape = w1.tape
  output : w2.output = w1.output
  size : w2.heap.size = w1.heap.size
  block : ∀ k, k ≠ b → w2.heap[k]? = w1.heap[k]?
theorem SameBut.refl (b : Nat) (w : World) : SameBut b w w := ⟨rfl, rfl, rfl, rfl, fun _ _ => rfl⟩
theorem SameBut.set {b : Nat} {w1 w2 : World} (h : SameBut b w1 w2) (i : Nat) (u : Value) : SameBut b w1 (w2.setCell ⟨b, i, none⟩ u) :=
  ⟨h.os, h.tape, h.output, by simp [World.setCell, h.size], fun k hk => (Below.heap_setCell w2 ⟨b, i, none⟩ u k hk).trans (h.block k hk)⟩
theorem SameBut.drew {b : Nat} {w1 w2 : World} (h : SameBut b w1 w2) : SameBut b w1 w2.drew := ⟨h.os, h.tape, h.output, h.size, h.block⟩
theorem SameBut.drewN {b : Nat} {w1 w2 : World} (h : SameBut b w1 w2) (n : Nat) : SameBut b w1 (w2.drewN n) := ⟨h.os, h.tape, h.output, h.size, h.block⟩
theorem SameBut.keeps {b : Nat} {w1 w2 : World} (h : SameBut b w1 w2) : Keeps (fun k => k = b) w1 w2 := ⟨h.os, h.tape, h.output, Nat.le_of_eq h.size.symm, fun k _ hn => h.block k hn⟩

def Drew (w w' : World) : Prop := ∃ n, w' = w.drewN n
theorem Drew.refl (w : World) : Drew w w := ⟨0, rfl⟩
theorem Drew.drewN {w w' : World} (h : Drew w w') (m : Nat) : Drew w (w'.drewN m) := by
  obtain ⟨n, rfl⟩ := h
  exact ⟨n + m, by simp [World.drewN, Nat.add_assoc]⟩
theorem Drew.drew {w w' : World} (h : Drew w w') : Drew w w'.drew := by
  obtain ⟨n, rfl⟩ := h
  exact ⟨n + 1, by simp [World.drewN, World.drew, Nat.add_assoc]⟩
theorem Drew.keeps {w w' : World} (h : Drew w w') (S : Nat → Prop) : Keeps S w w' := by
  obtain ⟨n, rfl⟩ := h
  exact (Keeps.refl S w).drewN n
theorem Drew.trans {w w1 w2 : World} (h : Drew w w1) (k : Drew w1 w2) : Drew w w2 := by
  obtain ⟨n, rfl⟩ := k
  exact h.drewN n
theorem post_gen {P : Program} {f : FuncId} {args : Array Value} {w : World} {R : Ending → World → Prop} (h : ∀ R' : Ending → World → Prop, Hid (∀ e w', R e w' → R' e w') → Calls P f args w R') : Calls P f args w R := h R (fun _ _ x => x)
theorem hidden {p : Prop} (h : p) : Hid p := h
def byteCells (l : List UInt8) : List Value := l.map fun b => .int .u8 b.toNat
def mkS (l : List UInt8) : ByteArray := ⟨l.toArray⟩
theorem byteCells_length (l : List UInt8) : (byteCells l).length = l.length := by simp [byteCells]
theorem byteCells_append (l m : List UInt8) : byteCells (l ++ m) = byteCells l ++ byteCells m := by simp [byteCells]
theorem own_text {P : Program} {w : World} {base n : Nat} {e' src dst e : TypeId} {v : Value} {xs : List UInt8} (hs : P.underlying src = some (.slice e)) (he : P.underlying e = some (.int .u8)) (hd : P.underlying dst = some .string)
    (h : w.ownsRow base e' 1 v n (byteCells xs)) : (convert src dst v).run P w = .ok (.string ⟨xs.toArray⟩) w := by
  have hl : xs.length = n := by have := h.1; simp [byteCells] at this; exact this
  rcases h.2 with ⟨rfl, rfl⟩ | ⟨g, cap, cur, rfl, _⟩
  · obtain rfl : xs = [] := List.eq_nil_of_length_eq_zero hl
    exact run_convert_bytes_nil w src e hs he 0 0 dst hd
  · have k := run_convert_bytes_arg w src e hs he g 0 n cap (xs.map fun b => (b.toNat : Int)) (by simpa using hl) (fun i hi => ?_) dst hd
    · rw [k]
      congr 2
      simp only [strOfNums, List.map_map]
      congr 2
      have : ((fun n : Int => UInt8.ofNat n.toNat) ∘ fun b : UInt8 => (b.toNat : Int)) = id := by funext b; simp
      rw [this, List.map_id]
    · have hi' : i < xs.length := by omega
      have hc := h.cells (g := g) rfl i (.int .u8 (xs[i]).toNat) (by simp [byteCells, hi'])
      have ha : (⟨g, 0, none⟩ : Addr).add i = ⟨g, 0 + i, none⟩ := by unfold Addr.add; split <;> simp_all
      rw [ha] at hc
      rw [hc]
      simp [List.getD_eq_getElem?_getD, hi']
theorem ret_int {k : IntKind} {a b : Int} (h : a = b) : Ending.returned (.int k a) = .returned (.int k b) := by rw [h]
theorem ret_bool {a b : Bool} (h : a = b) : Ending.returned (.bool a) = .returned (.bool b) := by rw [h]
theorem ret_str {a b : ByteArray} (h : a = b) : Ending.returned (.string a) = .returned (.string b) := by rw [h]
theorem app_lit_end {w wr w1 : World} {F' S : Nat → Prop} {e size n n1 : Nat} {v v1 : Value} {ys xs : List Value} {o : Obj} (hR : Row wr F' e size v n xs) (hK : Keeps S w wr) (hF : Fresh S F' w) (hR1 : Row w1 (fun k => F' k ∨ (wr.alloc o).heap.size ≤ k) e size v1 n1 ys) (hK1 : Keeps (fun k => v.ownBlock = some k) (wr.alloc o) w1) :
    Row w1 (fun k => F' k ∨ wr.heap.size ≤ k) e size v1 n1 ys ∧ Keeps S w w1 ∧ Fresh S (fun k => F' k ∨ wr.heap.size ≤ k) w := by
  refine ⟨hR1.mono (fun k _ h => h.imp id (fun h => by simp at h; omega)), ?_, fun k h => ?_⟩
  · refine hK.trans (((Keeps.refl (fun k => v.ownBlock = some k) wr).alloc o).trans hK1 (fun i _ h => h)) (fun i hi h => ?_)
    rcases hF i (hR.2 i h) with x | x
    · exact x
    · omega
  · rcases h with h | h
    · exact hF k h
    · have := hK.size; exact .inr (by omega)

end Go.Proofs.YtafndbmjohhhpaaDoor
namespace Go.Proofs.YtafndbmjohhhpaaDoor

def hexd (n : Nat) : UInt8 := UInt8.ofNat (if n < 10 then 48 + n else 87 + n)
def esc (c : UInt8) : List UInt8 :=
  if c.toNat = 34 ∨ c.toNat = 39 ∨ c.toNat = 92 then [92, c]
  else if c.toNat = 10 then [92, 110] else if c.toNat = 13 then [92, 114] else if c.toNat = 9 then [92, 116]
  else if 32 ≤ c.toNat ∧ c.toNat < 127 then [c]
  else [92, 120, hexd (c.toNat / 16), hexd (c.toNat % 16)]
def quoteL (l : List UInt8) : List UInt8 := 34 :: (l.flatMap esc ++ [34])
def dig (c : UInt8) : Nat :=
  if 48 ≤ c.toNat ∧ c.toNat ≤ 57 then c.toNat - 48 else if 97 ≤ c.toNat ∧ c.toNat ≤ 102 then c.toNat - 87 else if 65 ≤ c.toNat ∧ c.toNat ≤ 70 then c.toNat - 55 else 16
def digI (c : UInt8) : Int := if dig c < 16 then dig c else -1
def hx : List UInt8 → Nat × Nat
  | [] => (0, 0)
  | [a] => if dig a < 16 then (dig a, 2) else (0, 0)
  | a :: b :: _ => if dig a < 16 then (if dig b < 16 then (dig a * 16 + dig b, 3) else (dig a, 2)) else (0, 0)
def beh : List UInt8 → Nat × Nat
  | [] => (0, 0)
  | c :: r =>
    if c.toNat = 34 ∨ c.toNat = 39 ∨ c.toNat = 92 then (c.toNat, 1) else if c.toNat = 110 then (10, 1) else if c.toNat = 114 then (13, 1) else if c.toNat = 116 then (9, 1)
    else if c.toNat = 48 then (0, 1) else if c.toNat = 120 then hx r else (0, 0)
def unescF : Nat → Nat → List UInt8 → List UInt8 ⊕ Nat
  | 0, _, _ => .inl []
  | _ + 1, _, [] => .inl []
  | f + 1, at', c :: r =>
    if c.toNat = 92 then
      if (beh r).2 = 0 then .inr at'
      else match unescF f (at' + 1 + (beh r).2) (r.drop (beh r).2) with
        | .inl t => .inl (UInt8.ofNat (beh r).1 :: t)
        | .inr k => .inr k
    else match unescF f (at' + 1) r with
      | .inl t => .inl (c :: t)
      | .inr k => .inr k
def unesc (l : List UInt8) : List UInt8 ⊕ Nat := unescF l.length 0 l

theorem hx_le (l : List UInt8) : (hx l).2 ≤ l.length + 1 := by
  match l with
  | [] => simp [hx]
  | [a] => simp only [hx]; split <;> simp
  | a :: b :: r => simp only [hx]; split <;> (try split) <;> simp
theorem hx_lt (l : List UInt8) : (hx l).1 < 256 := by
  match l with
  | [] => simp [hx]
  | [a] => simp only [hx]; split <;> simp; omega
  | a :: b :: r => simp only [hx]; split <;> (try split) <;> simp <;> omega
theorem beh_le (l : List UInt8) : (beh l).2 ≤ l.length := by
  cases l with
  | nil => simp [beh]
  | cons c r =>
    have := hx_le r
    simp only [beh]
    repeat (split; · simp)
    split <;> simp <;> omega
theorem beh_lt (l : List UInt8) : (beh l).1 < 256 := by
  cases l with
  | nil => simp [beh]
  | cons c r =>
    have := hx_lt r
    have h2 : c.toNat < 256 := c.toNat_lt
    simp only [beh]
    split
    · simpa using h2
    · repeat (split; · simp)
      split <;> simp <;> omega
theorem unescF_more (f : Nat) : ∀ (at' : Nat) (l : List UInt8) (g : Nat), l.length ≤ f → l.length ≤ g → unescF f at' l = unescF g at' l := by
  induction f with
  | zero =>
    intro at' l g h1 h2
    obtain rfl : l = [] := List.eq_nil_of_length_eq_zero (by omega)
    cases g <;> simp [unescF]
  | succ f ih =>
    intro at' l g h1 h2
    cases l with
    | nil => cases g <;> simp [unescF]
    | cons c r =>
      simp at h1 h2
      obtain ⟨g, rfl⟩ : ∃ m, g = m + 1 := ⟨g - 1, by omega⟩
      simp only [unescF]
      rw [ih (at' + 1) r g (by omega) (by omega), ih (at' + 1 + (beh r).2) (r.drop (beh r).2) g (by simp; omega) (by simp; omega)]
def ahd (o : List UInt8) : List UInt8 ⊕ Nat → List UInt8 ⊕ Nat
  | .inl t => .inl (o ++ t)
  | .inr k => .inr k
def unAt (l : List UInt8) (i : Nat) : List UInt8 ⊕ Nat := unescF l.length i (l.drop i)
theorem unAt_zero (l : List UInt8) : ahd [] (unAt l 0) = unesc l := by
  simp only [unAt, unesc, List.drop_zero]
  cases unescF l.length 0 l <;> rfl
theorem unAt_end (l : List UInt8) (o : List UInt8) (i : Nat) (h : l.length ≤ i) : ahd o (unAt l i) = .inl o := by
  rw [unAt, List.drop_eq_nil_of_le h]
  cases l.length <;> simp [unescF, ahd]
theorem unAt_plain {l : List UInt8} {i : Nat} (o : List UInt8) (h : i < l.length) (hc : ¬ l[i].toNat = 92) : ahd o (unAt l i) = ahd (o ++ [l[i]]) (unAt l (i + 1)) := by
  have e : unAt l i = unescF ((l.drop i).length - 1 + 1) i (l.drop i) := unescF_more _ _ _ _ (by simp) (by omega)
  have e2 : unAt l (i + 1) = unescF ((l.drop i).length - 1) (i + 1) (l.drop (i + 1)) := unescF_more _ _ _ _ (by simp) (by simp; omega)
  rw [e, e2, List.drop_eq_getElem_cons h]
  simp only [unescF, if_neg hc]
  cases unescF ((l[i] :: l.drop (i + 1)).length - 1) (i + 1) (l.drop (i + 1)) <;> simp [ahd]
theorem unAt_bad {l : List UInt8} {i : Nat} (o : List UInt8) (h : i < l.length) (hc : l[i].toNat = 92) (hb : (beh (l.drop (i + 1))).2 = 0) : ahd o (unAt l i) = .inr i := by
  have e : unAt l i = unescF ((l.drop i).length - 1 + 1) i (l.drop i) := unescF_more _ _ _ _ (by simp) (by omega)
  rw [e, List.drop_eq_getElem_cons h]
  simp [unescF, hc, hb, ahd]
theorem unAt_esc {l : List UInt8} {i : Nat} (o : List UInt8) (h : i < l.length) (hc : l[i].toNat = 92) (hb : ¬ (beh (l.drop (i + 1))).2 = 0) :
    ahd o (unAt l i) = ahd (o ++ [UInt8.ofNat (beh (l.drop (i + 1))).1]) (unAt l (i + 1 + (beh (l.drop (i + 1))).2)) := by
  have e : unAt l i = unescF ((l.drop i).length - 1 + 1) i (l.drop i) := unescF_more _ _ _ _ (by simp) (by omega)
  have hl := beh_le (l.drop (i + 1))
  simp only [List.length_drop] at hl
  have e2 : unAt l (i + 1 + (beh (l.drop (i + 1))).2) = unescF ((l.drop i).length - 1) (i + 1 + (beh (l.drop (i + 1))).2) ((l.drop (i + 1)).drop (beh (l.drop (i + 1))).2) := by
    rw [List.drop_drop]
    exact unescF_more _ _ _ _ (by simp) (by simp; omega)
  rw [e, e2, List.drop_eq_getElem_cons h]
  simp only [unescF, if_pos hc, if_neg hb]
  cases unescF ((l[i] :: l.drop (i + 1)).length - 1) (i + 1 + (beh (l.drop (i + 1))).2) ((l.drop (i + 1)).drop (beh (l.drop (i + 1))).2) <;> simp [ahd]

def letterB (c : UInt8) : Bool := decide (97 ≤ c.toNat ∧ c.toNat ≤ 122) || decide (65 ≤ c.toNat ∧ c.toNat ≤ 90) || decide (c.toNat = 95)
def digitB (c : UInt8) : Bool := decide (48 ≤ c.toNat ∧ c.toNat ≤ 57)
def nameB : List UInt8 → Bool
  | [] => false
  | c :: r => letterB c && r.all fun d => letterB d || digitB d
end Go.Proofs.YtafndbmjohhhpaaDoor
namespace Go.Proofs.YtafndbmjohhhpaaDoor

def innerB (c : UInt8) : Bool := letterB c || digitB c
def lineN (l : List UInt8) : Nat := (l.takeWhile (fun c => c != 10)).length
def gup (k : Nat) (b : Bool) (x : Nat × Bool × Bool) : Nat × Bool × Bool := (k + x.1, b || x.2.1, x.2.2)
def gapF : Nat → List UInt8 → Nat × Bool × Bool
  | 0, _ => (0, false, true)
  | _ + 1, [] => (0, false, true)
  | f + 1, c :: r =>
    if c.toNat = 10 then gup 1 true (gapF f r)
    else if c.toNat = 32 ∨ c.toNat = 9 ∨ c.toNat = 13 then gup 1 false (gapF f r)
    else if c.toNat = 35 ∨ [47, 47].isPrefixOf (c :: r) = true then gup (lineN (c :: r)) false (gapF f ((c :: r).drop (lineN (c :: r))))
    else if [47, 42].isPrefixOf (c :: r) = true then
      if Lib.index ((c :: r).drop 2) [42, 47] < 0 then (0, false, false)
      else gup ((Lib.index ((c :: r).drop 2) [42, 47]).toNat + 4) (((c :: r).take ((Lib.index ((c :: r).drop 2) [42, 47]).toNat + 4)).contains 10) (gapF f ((c :: r).drop ((Lib.index ((c :: r).drop 2) [42, 47]).toNat + 4)))
    else (0, false, true)
def gap (l : List UInt8) : Nat × Bool × Bool := gapF l.length l

theorem lineN_pos {c : UInt8} {r : List UInt8} (h : c.toNat ≠ 10) : 1 ≤ lineN (c :: r) := by
  have : (c != 10) = true := by
    rw [bne_iff_ne]
    rintro rfl
    exact h rfl
  simp [lineN, this]
theorem lineN_le (l : List UInt8) : lineN l ≤ l.length := by
  simp only [lineN]
  exact (List.takeWhile_sublist _).length_le
theorem gapF_more (f : Nat) : ∀ (l : List UInt8) (g : Nat), l.length ≤ f → l.length ≤ g → gapF f l = gapF g l := by
  induction f with
  | zero =>
    intro l g h1 h2
    obtain rfl : l = [] := List.eq_nil_of_length_eq_zero (by omega)
    cases g <;> rfl
  | succ f ih =>
    intro l g h1 h2
    cases l with
    | nil => cases g <;> rfl
    | cons c r =>
      obtain ⟨g, rfl⟩ : ∃ k, g = k + 1 := ⟨g - 1, by simp at h2; omega⟩
      simp only [List.length_cons] at h1 h2
      simp only [gapF]
      by_cases hc : c.toNat = 10
      · rw [if_pos hc, if_pos hc, ih r g (by omega) (by omega)]
      · rw [if_neg hc, if_neg hc, ih r g (by omega) (by omega)]
        have hl := lineN_pos (r := r) hc
        rw [ih ((c :: r).drop (lineN (c :: r))) g (by simp only [List.length_drop, List.length_cons]; omega) (by simp only [List.length_drop, List.length_cons]; omega), ih ((c :: r).drop ((Lib.index ((c :: r).drop 2) [42, 47]).toNat + 4)) g (by simp only [List.length_drop, List.length_cons]; omega) (by simp only [List.length_drop, List.length_cons]; omega)]
theorem gap_of (f : Nat) (l : List UInt8) (h : l.length ≤ f) : gapF f l = gap l := gapF_more _ _ _ h (Nat.le_refl _)
theorem gap_nil : gap [] = (0, false, true) := rfl
section
variable {c : UInt8} {r : List UInt8}
theorem gap_cons : gap (c :: r) =
    if c.toNat = 10 then gup 1 true (gap r)
    else if c.toNat = 32 ∨ c.toNat = 9 ∨ c.toNat = 13 then gup 1 false (gap r)
    else if c.toNat = 35 ∨ [47, 47].isPrefixOf (c :: r) = true then gup (lineN (c :: r)) false (gap ((c :: r).drop (lineN (c :: r))))
    else if [47, 42].isPrefixOf (c :: r) = true then
      if Lib.index ((c :: r).drop 2) [42, 47] < 0 then (0, false, false)
      else gup ((Lib.index ((c :: r).drop 2) [42, 47]).toNat + 4) (((c :: r).take ((Lib.index ((c :: r).drop 2) [42, 47]).toNat + 4)).contains 10) (gap ((c :: r).drop ((Lib.index ((c :: r).drop 2) [42, 47]).toNat + 4)))
    else (0, false, true) := by
  show gapF (r.length + 1) (c :: r) = _
  simp only [gapF]
  by_cases hc : c.toNat = 10
  · rw [if_pos hc, if_pos hc, gap_of _ _ (Nat.le_refl _)]
  · have hl := lineN_pos (r := r) hc
    rw [if_neg hc, if_neg hc, gap_of _ _ (Nat.le_refl _), gap_of _ ((c :: r).drop (lineN (c :: r))) (by simp only [List.length_drop, List.length_cons]; omega), gap_of _ ((c :: r).drop ((Lib.index ((c :: r).drop 2) [42, 47]).toNat + 4)) (by simp only [List.length_drop, List.length_cons]; omega)]
theorem gap_nl (h : c.toNat = 10) : gap (c :: r) = gup 1 true (gap r) := by rw [gap_cons, if_pos h]
theorem gap_blank (h : c.toNat = 32 ∨ c.toNat = 9 ∨ c.toNat = 13) : gap (c :: r) = gup 1 false (gap r) := by rw [gap_cons, if_neg (by omega), if_pos h]
theorem gap_line (h : c.toNat ≠ 10) (h0 : ¬ (c.toNat = 32 ∨ c.toNat = 9 ∨ c.toNat = 13)) (h1 : c.toNat = 35 ∨ [47, 47].isPrefixOf (c :: r) = true) : gap (c :: r) = gup (lineN (c :: r)) false (gap ((c :: r).drop (lineN (c :: r)))) := by
  rw [gap_cons, if_neg h, if_neg h0, if_pos h1]
theorem gap_bad (h : c.toNat ≠ 10) (h0 : ¬ (c.toNat = 32 ∨ c.toNat = 9 ∨ c.toNat = 13)) (h1 : ¬ (c.toNat = 35 ∨ [47, 47].isPrefixOf (c :: r) = true)) (h2 : [47, 42].isPrefixOf (c :: r) = true) (h3 : Lib.index ((c :: r).drop 2) [42, 47] < 0) : gap (c :: r) = (0, false, false) := by
  rw [gap_cons, if_neg h, if_neg h0, if_neg h1, if_pos h2, if_pos h3]
theorem gap_note (h : c.toNat ≠ 10) (h0 : ¬ (c.toNat = 32 ∨ c.toNat = 9 ∨ c.toNat = 13)) (h1 : ¬ (c.toNat = 35 ∨ [47, 47].isPrefixOf (c :: r) = true)) (h2 : [47, 42].isPrefixOf (c :: r) = true) (h3 : ¬ Lib.index ((c :: r).drop 2) [42, 47] < 0) {k : Nat} (hk : k = (Lib.index ((c :: r).drop 2) [42, 47]).toNat + 4) :
    gap (c :: r) = gup k (((c :: r).take k).contains 10) (gap ((c :: r).drop k)) := by
  subst hk; rw [gap_cons, if_neg h, if_neg h0, if_neg h1, if_pos h2, if_neg h3]
theorem gap_stop (h : c.toNat ≠ 10) (h0 : ¬ (c.toNat = 32 ∨ c.toNat = 9 ∨ c.toNat = 13)) (h1 : ¬ (c.toNat = 35 ∨ [47, 47].isPrefixOf (c :: r) = true)) (h2 : ¬ [47, 42].isPrefixOf (c :: r) = true) : gap (c :: r) = (0, false, true) := by
  rw [gap_cons, if_neg h, if_neg h0, if_neg h1, if_neg h2]
end
theorem gup_gup (k m : Nat) (a b : Bool) (x : Nat × Bool × Bool) : gup k a (gup m b x) = gup (k + m) (a || b) x := by simp [gup, Nat.add_assoc, Bool.or_assoc]
def wordList : List (List UInt8) := [[98, 97, 115, 101], [98, 114, 101, 97, 107], [99, 97, 115, 101], [99, 97, 116, 99, 104], [99, 108, 97, 115, 115], [99, 108, 111, 110, 101], [99, 111, 110, 115, 116], [99, 111, 110, 115, 116, 114, 117, 99, 116, 111, 114], [99, 111, 110, 116, 105, 110, 117, 101], [100, 101, 102, 97, 117, 108, 116], [100, 101, 108, 101, 116, 101], [100, 111], [101, 108, 115, 101], [101, 110, 117, 109], [101, 120, 116, 101, 110, 100, 115], [102, 97, 108, 115, 101], [102, 111, 114], [102, 111, 114, 101, 97, 99, 104], [102, 117, 110, 99, 116, 105, 111, 110], [105, 102], [105, 110], [105, 110, 115, 116, 97, 110, 99, 101, 111, 102], [108, 111, 99, 97, 108], [110, 117, 108, 108], [114, 101, 115, 117, 109, 101], [114, 101, 116, 117, 114, 110], [115, 116, 97, 116, 105, 99], [115, 119, 105, 116, 99, 104], [116, 104, 105, 115], [116, 104, 114, 111, 119], [116, 114, 117, 101], [116, 114, 121], [116, 121, 112, 101, 111, 102], [119, 104, 105, 108, 101], [121, 105, 101, 108, 100]]
def keyB (w : List UInt8) : Bool := wordList.contains w
def signList : List (List UInt8) := [[62, 62, 62], [60, 61, 62], [60, 45], [60, 60], [62, 62], [60, 61], [62, 61], [61, 61], [33, 61], [38, 38], [124, 124], [43, 43], [45, 45], [43, 61], [45, 61], [42, 61], [47, 61], [37, 61], [58, 58], [43], [45], [42], [47], [37], [61], [60], [62], [33], [126], [38], [124], [94], [63], [58], [59], [44], [46], [40], [41], [123], [125], [91], [93]]

def digitsV (b : Nat) (d : List UInt8) : Nat := d.foldl (fun n c => n * b + dig c) 0
def numL (w : List UInt8) : Int ⊕ Int :=
  if [48, 120].isPrefixOf w = true then
    (if w.drop 2 = [] ∨ (w.drop 2).any (fun c => decide (16 ≤ dig c)) = true then .inr 5
     else if 18446744073709551616 ≤ digitsV 16 (w.drop 2) then .inr 11 else .inl (IntKind.i64.wrap (digitsV 16 (w.drop 2))))
  else if w = [] ∨ (1 < w.length ∧ w.head? = some 48) ∨ w.any (fun c => decide (10 ≤ dig c)) = true then .inr 5
  else if 9223372036854775808 ≤ digitsV 10 w then .inr 11 else .inl (digitsV 10 w)

def quo (q : UInt8) : List UInt8 → Option Nat
  | [] => none
  | c :: r => if c = q then some 0 else if c.toNat = 10 then none else if c.toNat = 92 then
      (match r with
       | [] => none
       | d :: r' => if d.toNat = 10 then none else (quo q r').map (· + 2))
    else (quo q r).map (· + 1)
def wordL (l : List UInt8) : List UInt8 := l.takeWhile innerB
def front : List UInt8 → (Int × List UInt8 × Int × Nat) ⊕ (Int × Nat)
  | [] => .inr (80, 0)
  | c :: r =>
    if letterB c = true then .inl (if keyB (wordL (c :: r)) then 2 else 1, wordL (c :: r), 0, (wordL (c :: r)).length)
    else if digitB c = true then
      (match numL (wordL (c :: r)) with
       | .inl n => .inl (3, wordL (c :: r), n, (wordL (c :: r)).length)
       | .inr e => .inr (e, 0))
    else if c.toNat = 34 ∨ c.toNat = 39 then
      (match quo c r with
       | none => .inr (5, 0)
       | some n =>
         match unesc (r.take n) with
         | .inr k => .inr (20, 1 + k)
         | .inl t => if c.toNat = 34 then .inl (4, t, 0, n + 2) else match t with
           | [b] => .inl (3, (c :: r).take (n + 2), b.toNat, n + 2)
           | _ => .inr (5, 0))
    else match signList.find? (fun s => s.isPrefixOf (c :: r)) with
      | some s => .inl (5, s, 0, s.length)
      | none => .inr (80, 0)
structure Tk where
  kind : Int
  at_ : Nat
  text : List UInt8
  num : Int
  line : Bool
def scanF : Nat → Nat → Nat → List UInt8 → List Tk ⊕ (Int × Nat)
  | 0, _, _, _ => .inl []
  | f + 1, n, at', l =>
    if (gap l).2.2 = false then .inr (5, at' + (gap l).1)
    else if l.length ≤ (gap l).1 then .inl [⟨6, at' + (gap l).1, [], 0, (gap l).2.1⟩]
    else if n = 65536 then .inr (2, at' + (gap l).1)
    else match front (l.drop (gap l).1) with
      | .inr e => .inr (e.1, at' + (gap l).1 + e.2)
      | .inl t =>
        match scanF f (n + 1) (at' + (gap l).1 + t.2.2.2) (l.drop ((gap l).1 + t.2.2.2)) with
        | .inr e => .inr e
        | .inl ts => .inl (⟨t.1, at' + (gap l).1, t.2.1, t.2.2.1, (gap l).2.1⟩ :: ts)
def scan (l : List UInt8) : List Tk ⊕ (Int × Nat) := if 262144 < l.length then .inr (2, 0) else scanF (l.length + 1) 0 0 l
end Go.Proofs.YtafndbmjohhhpaaDoor
namespace Go.Proofs.YtafndbmjohhhpaaDoor
open Go.RowKit

def Strs (w : World) (A : Option Addr) (ss : List ByteArray) : Prop := ∀ i s, ss[i]? = some s → ∃ b o, A = some ⟨b, o, none⟩ ∧ w.cell? ⟨b, o + i, none⟩ = some (.string s)

theorem Strs.keeps {w w1 : World} {S : Nat → Prop} {A : Option Addr} {ss : List ByteArray} (h : Strs w A ss) (hk : Keeps S w w1) (hn : ∀ b o, A = some ⟨b, o, none⟩ → ¬ S b) : Strs w1 A ss := fun i s hi => by
  obtain ⟨b, o, rfl, hc⟩ := h i s hi
  exact ⟨b, o, rfl, hk.cell hc (hn b o rfl)⟩

theorem info_uint8 : (Tryd.prog.info? 5).map (fun i => (i.zero, i.size, i.bytes)) = some (some (.int .u8 0), 1, 1) := by kernel_rfl

def strCellsOf (l : List ByteArray) : List Value := l.map .string
theorem Strs.nil (w : World) (A : Option Addr) : Strs w A [] := fun i s h => by simp at h
theorem add_at (g o j : Nat) : (⟨g, o, none⟩ : Addr).add j = ⟨g, o + j, none⟩ := by unfold Addr.add; split <;> simp_all
theorem Strs.src {P : Program} {w : World} {A : Option Addr} {ss : List ByteArray} {c : Nat} {tx e : TypeId} (h : Strs w A ss) (hk : P.underlying tx = some (.slice e)) : Src P 1 tx (.slice A ss.length c) ss.length (strCellsOf ss) w := by
  cases hs : ss with
  | nil =>
    cases A with
    | none => exact Src.ofNil w hk c
    | some a => exact Src.ofSlice w hk a 0 c [] rfl (by simp) (by simp)
  | cons s l =>
    obtain ⟨b, o, rfl, _⟩ := h 0 s (by simp [hs])
    rw [← hs]
    refine Src.ofSlice w hk _ _ c _ (by simp [strCellsOf]) ?_ ?_
    · intro j u hu
      simp only [strCellsOf, List.getElem?_map, Option.map_eq_some_iff] at hu
      obtain ⟨s', h1, rfl⟩ := hu
      obtain ⟨b', o', he, hc⟩ := h j s' h1
      simp at he
      obtain ⟨rfl, rfl⟩ := he
      rw [add_at]; exact hc
    · intro u hu
      simp only [strCellsOf, List.mem_map] at hu
      obtain ⟨_, _, rfl⟩ := hu
      rfl
theorem Strs.lit (w : World) (ss : List ByteArray) (t : TypeId) : Strs (w.alloc (.cells (ss.map Value.string).toArray t)) (some ⟨w.heap.size, 0, none⟩) ss := fun i s h => ⟨_, _, rfl, by
  rw [blk_cell (blk_new w _)]
  simp [h]⟩
theorem Strs.lit' (w : World) (ss : List ByteArray) (t : TypeId) {n : Nat} (hn : n = w.heap.size) : Strs (w.alloc (.cells (ss.map Value.string).toArray t)) (some ⟨n, 0, none⟩) ss := hn ▸ Strs.lit w ss t
theorem Strs.own {w : World} {base e n c : Nat} {A : Option Addr} {ss : List ByteArray} (h : w.ownsRow base e 1 (.slice A n c) n (strCellsOf ss)) : Strs w A ss := fun i s hi => by
  rcases h.2 with ⟨h1, h2⟩ | ⟨g, cap, cur, h1, _⟩
  · have := h.1
    simp [strCellsOf, h2] at this
    simp [this] at hi
  · simp at h1
    obtain ⟨rfl, rfl⟩ := h1
    refine ⟨g, 0, rfl, ?_⟩
    have := h.cells (g := g) rfl i (.string s) (by simp [strCellsOf, hi])
    rwa [add_at] at this

theorem src_one {P : Program} (w : World) (x : Value) (t : TypeId) {tx e : TypeId} (hk : P.underlying tx = some (.slice e)) (h1 : x.oneCell' = true) : Src P 1 tx (.slice (some ⟨w.heap.size, 0, none⟩) 1 1) 1 [x] (w.alloc (.cells #[x] t)) := by
  refine Src.ofSlice _ hk _ _ 1 _ rfl ?_ ?_
  · intro j u hu
    cases j with
    | zero => simp at hu; subst hu; rw [add_at, blk_cell (blk_new w _)]; rfl
    | succ j => simp at hu
  · intro u hu
    simp at hu
    exact hu ▸ h1
section
variable {P : Program} {ops : Array Oper} {o : Oper} {a : Act} {Q : Exit → Act → World → Prop} {rest : List Oper}
theorem mk0_list (w : World) (hg : o.guard = none) (l c : Operand) (t : TypeId) (ho : o.op = .makeSlice t l c) (e : TypeId) (z : Value) (size bytes : Nat) (ht : P.underlying t = some (.slice e))
    (hinfo : (P.info? e).map (fun i => (i.zero, i.size, i.bytes)) = some (some z, size, bytes)) (kl kc : IntKind) (C : Int) (n : Nat) (hl : a.eval l = .int kl 0) (hc : a.eval c = .int kc C) (hC : C = n) (hb : bytes * n ≤ 281474976710656) (hm : n ≤ 9223372036854775807)
    (h : ∀ w', Row w' (fun k => k = w.heap.size) e size (.slice (some ⟨w.heap.size, 0, none⟩) 0 n) 0 [] → Keeps (fun _ => False) w w' → wpList P ops Q rest (a.put o.dst (.slice (some ⟨w.heap.size, 0, none⟩) 0 n)) w') : wpList P ops Q (o :: rest) a w := by
  obtain ⟨i, hi, hz, hsize, hby⟩ := info_parts hinfo
  subst hby
  exact wpList_make_own w hg l c t ho 0 e i z size ht hi hz hsize kl kc C n hl hc hC hb (by unfold maxLen; omega) (Nat.zero_le _) fun w' h1 h2 => h w' ⟨h1, fun k hk => by simpa [Value.ownBlock] using hk.symm⟩ ((Keeps.refl _ w).grown h2 (fun k hk => by simp at hk))
end
end Go.Proofs.YtafndbmjohhhpaaDoor
namespace Go.Proofs.YtafndbmjohhhpaaDoor
open Go.RowKit
set_option maxRecDepth 100000

theorem digI_is (c : UInt8) : (48 ≤ c.toNat ∧ c.toNat ≤ 57 → digI c = c.toNat - 48) ∧ (97 ≤ c.toNat ∧ c.toNat ≤ 102 → digI c = c.toNat - 87) ∧ (65 ≤ c.toNat ∧ c.toNat ≤ 70 → digI c = c.toNat - 55) ∧
    (¬ (48 ≤ c.toNat ∧ c.toNat ≤ 57) ∧ ¬ (97 ≤ c.toNat ∧ c.toNat ≤ 102) ∧ ¬ (65 ≤ c.toNat ∧ c.toNat ≤ 70) → digI c = -1) := by
  have key : ∀ n : Nat, dig c = n → digI c = if n < 16 then (n : Int) else -1 := fun n h => by rw [digI, h]
  refine ⟨fun h => ?_, fun h => ?_, fun h => ?_, fun h => ?_⟩
  · rw [key (c.toNat - 48) (by rw [dig, if_pos h]), if_pos (by omega)]; omega
  · rw [key (c.toNat - 87) (by rw [dig, if_neg (by omega), if_pos h]), if_pos (by omega)]; omega
  · rw [key (c.toNat - 55) (by rw [dig, if_neg (by omega), if_neg (by omega), if_pos h]), if_pos (by omega)]; omega
  · rw [key 16 (by rw [dig, if_neg (by omega), if_neg (by omega), if_neg (by omega)]), if_neg (by omega)]
theorem str_digit (c : UInt8) (w : World) : Calls Tryd.prog 94 #[.int .u8 c.toNat] w fun e w' => e = .returned (.int .i64 (digI c)) ∧ w = w' := by
  have hc : c.toNat < 256 := c.toNat_lt
  have hd := digI_is c
  refine post_gen fun R hR => ?_
  go_enter Tryd.func94, Tryd.ntmps94
  go_wp2
  all_goals exact hR.out _ _ ⟨ret_int (by clear hR; omega), rfl⟩
theorem text1 (c : UInt8) (w : World) : (convert 53 9 (.slice (some ⟨w.heap.size, 0, none⟩) 1 1)).run Tryd.prog (w.alloc (.cells #[.int .u8 c.toNat] 5)) = .ok (.string ⟨#[c]⟩) (w.alloc (.cells #[.int .u8 c.toNat] 5)) :=
  own_text (P := Tryd.prog) (base := 0) (e' := 5) (xs := [c]) Tryd.underlying53 Tryd.underlying5 Tryd.underlying9 ⟨rfl, .inr ⟨w.heap.size, 1, #[.int .u8 c.toNat], rfl, Nat.zero_le _, blk_new _ _, Nat.le_refl _, by decide, rfl, rfl⟩⟩
theorem esc_is (c : UInt8) : (c.toNat = 34 ∨ c.toNat = 39 ∨ c.toNat = 92 → esc c = [92, c]) ∧ (c.toNat = 10 → esc c = [92, 110]) ∧ (c.toNat = 13 → esc c = [92, 114]) ∧ (c.toNat = 9 → esc c = [92, 116]) ∧
    (¬ (c.toNat = 34 ∨ c.toNat = 39 ∨ c.toNat = 92) → 32 ≤ c.toNat ∧ c.toNat < 127 → esc c = [c]) ∧
    (¬ (c.toNat = 10 ∨ c.toNat = 13 ∨ c.toNat = 9) → ¬ (32 ≤ c.toNat ∧ c.toNat < 127) → esc c = [92, 120, hexd (c.toNat / 16), hexd (c.toNat % 16)]) := by
  refine ⟨fun h => ?_, fun h => ?_, fun h => ?_, fun h => ?_, fun h k => ?_, fun h k => ?_⟩
  · rw [esc, if_pos h]
  · rw [esc, if_neg (by omega), if_pos h]
  · rw [esc, if_neg (by omega), if_neg (by omega), if_pos h]
  · rw [esc, if_neg (by omega), if_neg (by omega), if_neg (by omega), if_pos h]
  · rw [esc, if_neg (by omega), if_neg (by omega), if_neg (by omega), if_neg (by omega), if_pos k]
  · rw [esc, if_neg (by omega), if_neg (by omega), if_neg (by omega), if_neg (by omega), if_neg k]
theorem hex_at : ∀ n, n < 16 → (⟨#[48, 49, 50, 51, 52, 53, 54, 55, 56, 57, 97, 98, 99, 100, 101, 102]⟩ : ByteArray).extract n (n + 1) = ⟨#[hexd n]⟩ := by decide
theorem str_Escape (c : UInt8) (w : World) : Calls Tryd.prog 55 #[.int .u8 c.toNat] w fun e w' => e = .returned (.string (mkS (esc c))) ∧ Keeps (fun _ => False) w w' := by
  have hc : c.toNat < 256 := c.toNat_lt
  have kc := text1 c
  have E := hidden (esc_is c)
  refine post_gen fun R hR => ?_
  go_enter Tryd.func55, Tryd.ntmps55
  go_wp2
  any_goals
    refine hR.out _ _ ⟨show Ending.returned (.string _) = .returned (.string _) from ret_str ?_, by first | exact Keeps.refl _ _ | exact (Keeps.refl _ _).alloc _⟩
    clear hR kc
    obtain ⟨e1, e2, e3, e4, e5, e6⟩ := E.out
    simp only [beq_iff_eq, beq_eq_false_iff_ne, ne_eq] at *
    first | (rw [e1 (by omega)]; rfl) | (rw [e2 (by omega)]; rfl) | (rw [e3 (by omega)]; rfl) | (rw [e4 (by omega)]; rfl)| (rw [e5 (by omega) (by omega)]; rfl)
  all_goals
    go_quiet (fail)
    go_wp2
    refine hR.out _ _ ⟨show Ending.returned (.string _) = .returned (.string _) from ret_str ?_, (Keeps.refl _ _).drewN _⟩
    clear hR kc
    obtain ⟨e1, e2, e3, e4, e5, e6⟩ := E.out
    simp only [beq_eq_false_iff_ne, ne_eq] at *
    rw [e6 (by omega) (by omega), hex_at (c.toNat / 16) (by omega), hex_at (c.toNat % 16) (by omega)]
    rfl
end Go.Proofs.YtafndbmjohhhpaaDoor
namespace Go.Proofs.YtafndbmjohhhpaaDoor
open Go.RowKit
set_option maxRecDepth 100000

theorem str_some {s : ByteArray} (h : 0 < s.size) : s.toList.isEmpty = false := by
  rw [Lib.toList_data, List.isEmpty_eq_false_iff_exists_mem]
  exact ⟨s[0], by simp [ByteArray.getElem_eq_getElem_data]⟩
theorem str_none {s : ByteArray} (h : ¬ 0 < s.size) : s = ⟨#[]⟩ := by
  apply ByteArray.ext
  apply Array.eq_empty_of_size_eq_zero
  have : s.data.size = s.size := rfl
  omega
theorem at_list (s : ByteArray) {k : Nat} (h : k < s.size) : s.data.toList[k]'(by simpa using h) = s[k] := by rw [Array.getElem_toList]; rfl
theorem list_cons {s : ByteArray} {k : Nat} (h : k < s.size) : s.data.toList.drop k = s[k] :: s.data.toList.drop (k + 1) := by
  rw [List.drop_eq_getElem_cons (by simpa using h), at_list s h]
theorem list_nil {s : ByteArray} {k : Nat} (h : ¬ k < s.size) : s.data.toList.drop k = [] := List.drop_eq_nil_of_le (by have : s.data.size = s.size := rfl; simp; omega)
theorem list_len (s : ByteArray) : s.data.toList.length = s.size := by simp
theorem ret_tup {a b c d : Value} (h1 : a = c) (h2 : b = d) : Ending.returned (.tuple #[a, b]) = .returned (.tuple #[c, d]) := by rw [h1, h2]
theorem beh_is (c : UInt8) (r : List UInt8) : (c.toNat = 34 ∨ c.toNat = 39 ∨ c.toNat = 92 → beh (c :: r) = (c.toNat, 1)) ∧ (c.toNat = 110 → beh (c :: r) = (10, 1)) ∧ (c.toNat = 114 → beh (c :: r) = (13, 1)) ∧ (c.toNat = 116 → beh (c :: r) = (9, 1)) ∧
    (c.toNat = 48 → beh (c :: r) = (0, 1)) ∧ (c.toNat = 120 → beh (c :: r) = hx r) ∧
    (¬ (c.toNat = 34 ∨ c.toNat = 39 ∨ c.toNat = 92) → ¬ (c.toNat = 110 ∨ c.toNat = 114 ∨ c.toNat = 116 ∨ c.toNat = 48 ∨ c.toNat = 120) → beh (c :: r) = (0, 0)) := by
  refine ⟨fun h => ?_, fun h => ?_, fun h => ?_, fun h => ?_, fun h => ?_, fun h => ?_, fun h k => ?_⟩
  · rw [beh, if_pos h]
  · rw [beh, if_neg (by omega), if_pos h]
  · rw [beh, if_neg (by omega), if_neg (by omega), if_pos h]
  · rw [beh, if_neg (by omega), if_neg (by omega), if_neg (by omega), if_pos h]
  · rw [beh, if_neg (by omega), if_neg (by omega), if_neg (by omega), if_neg (by omega), if_pos h]
  · rw [beh, if_neg (by omega), if_neg (by omega), if_neg (by omega), if_neg (by omega), if_neg (by omega), if_pos h]
  · rw [beh, if_neg (by omega), if_neg (by omega), if_neg (by omega), if_neg (by omega), if_neg (by omega), if_neg (by omega)]
theorem str_digit_some (c : UInt8) (w : World) (h : dig c < 16) : Calls Tryd.prog 94 #[.int .u8 c.toNat] w fun e w' => e = .returned (.int .i64 (dig c)) ∧ w = w' := by
  have := str_digit c w
  rwa [digI, if_pos h] at this
theorem str_digit_none (c : UInt8) (w : World) (h : ¬ dig c < 16) : Calls Tryd.prog 94 #[.int .u8 c.toNat] w fun e w' => e = .returned (.int .i64 (-1)) ∧ w = w' := by
  have := str_digit c w
  rwa [digI, if_neg h] at this
theorem or_dig : ∀ a : Nat, a < 16 → ∀ b : Nat, b < 16 → bits BinOp.or .i64 ((a : Int) * 16) (b : Nat) = a * 16 + b := by decide
theorem or_dig0 : ∀ b : Nat, b < 16 → bits BinOp.or .i64 0 (b : Nat) = b := by decide
theorem hx_one (s : ByteArray) (h : ¬ 1 < s.size) : hx (s.data.toList.drop 1) = (0, 0) := by rw [list_nil h]; rfl
theorem hx_bad (s : ByteArray) (h : 1 < s.size) (hd : ¬ dig s[1] < 16) : hx (s.data.toList.drop 1) = (0, 0) := by
  rw [list_cons h]
  cases s.data.toList.drop (1 + 1) <;> simp [hx, hd]
theorem hx_two (s : ByteArray) (h : 1 < s.size) (hd : dig s[1] < 16) (h2 : ¬ 2 < s.size) : hx (s.data.toList.drop 1) = (dig s[1], 2) := by
  rw [list_cons h, list_nil h2]; simp [hx, hd]
theorem hx_two' (s : ByteArray) (h : 2 < s.size) (hd : dig s[1] < 16) (hd2 : ¬ dig s[2] < 16) : hx (s.data.toList.drop 1) = (dig s[1], 2) := by
  rw [list_cons (show 1 < s.size by omega), list_cons (show 1 + 1 < s.size by omega)]; simp [hx, hd, hd2]
theorem hx_three (s : ByteArray) (h : 2 < s.size) (hd : dig s[1] < 16) (hd2 : dig s[2] < 16) : hx (s.data.toList.drop 1) = (dig s[1] * 16 + dig s[2], 3) := by
  rw [list_cons (show 1 < s.size by omega), list_cons (show 1 + 1 < s.size by omega)]; simp [hx, hd, hd2]
def hxAt (s : ByteArray) (n a : Nat) : Prop := (a = 1 ∧ n = 0) ∨ (a = 2 ∧ ∃ h : 1 < s.size, dig s[1] < 16 ∧ n = dig s[1]) ∨ (a = 3 ∧ ∃ h : 2 < s.size, dig s[1] < 16 ∧ dig s[2] < 16 ∧ n = dig s[1] * 16 + dig s[2])
theorem str_behind (s : ByteArray) (w : World) (hs : s.size ≤ 140737488355328) : Calls Tryd.prog 89 #[.string s] w fun e w' => e = .returned (.tuple #[.int .u8 (beh s.data.toList).1, .int .i64 (beh s.data.toList).2]) ∧ w = w' := by
  by_cases h0 : 0 < s.size
  · have hl := list_cons h0
    simp only [List.drop_zero, Nat.zero_add] at hl
    have B := hidden (beh_is s[0] (s.data.toList.drop 1))
    rw [hl]
    have HL := hidden hl
    clear hl
    have hne := str_some h0
    by_cases hx : s[0].toNat = 120
    · obtain ⟨-, -, -, -, -, b6, -⟩ := B.out
      rw [b6 hx]
      have hxx : ((s[0].toNat : Int) == 120) = true := by simp; omega
      have hx1 : ((s[0].toNat : Int) == 34) = false := by simp; omega
      have hx2 : ((s[0].toNat : Int) == 39) = false := by simp; omega
      have hx3 : ((s[0].toNat : Int) == 92) = false := by simp; omega
      have hx4 : ((s[0].toNat : Int) == 110) = false := by simp; omega
      have hx5 : ((s[0].toNat : Int) == 114) = false := by simp; omega
      have hx6 : ((s[0].toNat : Int) == 116) = false := by simp; omega
      have hx7 : ((s[0].toNat : Int) == 48) = false := by simp; omega
      clear b6 B hx
      refine post_gen fun R hR => ?_
      go_enter Tryd.func89, Tryd.ntmps89
      go_wp2_with fail
      go_loop [4, 5] (fun n a => ∃ nn aa : Nat, n = .int .i64 nn ∧ a = .int .i64 aa ∧ hxAt s nn aa) (fun _ a => 3 - (intOf a).toNat)
      case atStart => exact ⟨0, 1, rfl, rfl, .inl ⟨rfl, rfl⟩⟩
      case round =>
        obtain ⟨nn, aa, rfl, rfl, hA⟩ := hrel
        rcases hA with ⟨rfl, rfl⟩ | ⟨rfl, h1, hd, rfl⟩ | ⟨rfl, h2, hd, hd2, rfl⟩
        · by_cases h1 : 1 < s.size
          · by_cases hd : dig s[1] < 16
            · have g1 := or_dig0 _ hd
              go_wp2_with (go_at_call 94; refine (str_digit_some s[1] _ hd).mono ?_; rintro e _ ⟨rfl, rfl⟩)
              go_round
              case rel => exact ⟨_, 2, rfl, rfl, .inr (.inl ⟨rfl, h1, hd, rfl⟩)⟩
              case measure => simp [intOf]
            · go_wp2_with (go_at_call 94; refine (str_digit_none s[1] _ hd).mono ?_; rintro e _ ⟨rfl, rfl⟩)
              exact hR.out _ _ ⟨by rw [hx_bad s h1 hd]; rfl, rfl⟩
          · go_wp2_with fail
            exact hR.out _ _ ⟨by rw [hx_one s h1]; rfl, rfl⟩
        · by_cases h2 : 2 < s.size
          · by_cases hd2 : dig s[2] < 16
            · have g1 := or_dig _ hd _ hd2
              go_wp2_with (go_at_call 94; refine (str_digit_some s[2] _ hd2).mono ?_; rintro e _ ⟨rfl, rfl⟩)
              go_round
              case rel => exact ⟨_, 3, by go_num, rfl, .inr (.inr ⟨rfl, h2, hd, hd2, rfl⟩)⟩
              case measure => simp [intOf]
            · have hu : ((dig s[1] : Nat) : Int) < 256 := by omega
              go_wp2_with (go_at_call 94; refine (str_digit_none s[2] _ hd2).mono ?_; rintro e _ ⟨rfl, rfl⟩)
              exact hR.out _ _ ⟨by rw [hx_two' s h2 hd hd2]; rfl, rfl⟩
          · have hu : ((dig s[1] : Nat) : Int) < 256 := by omega
            go_wp2_with fail
            exact hR.out _ _ ⟨by rw [hx_two s h1 hd h2]; rfl, rfl⟩
        · have hu : ((dig s[1] * 16 + dig s[2] : Nat) : Int) < 256 := by omega
          go_wp2_with fail
          all_goals exact hR.out _ _ ⟨by rw [hx_three s h2 hd hd2]; simp, rfl⟩
    · have hxx : ((s[0].toNat : Int) == 120) = false := by simp; omega
      refine post_gen fun R hR => ?_
      go_enter Tryd.func89, Tryd.ntmps89
      go_wp2_with fail
      all_goals
        refine hR.out _ _ ⟨ret_tup (show Value.int _ _ = _ from ?_) (show Value.int _ _ = _ from ?_), rfl⟩
        all_goals
          clear hR
          obtain ⟨b1, b2, b3, b4, b5, b6, b7⟩ := B.out
          simp only [beq_iff_eq, beq_eq_false_iff_ne, ne_eq] at *
          first | (rw [b1 (by omega)] <;> rfl) | (rw [b2 (by omega)] <;> rfl) | (rw [b3 (by omega)] <;> rfl) | (rw [b4 (by omega)] <;> rfl)| (rw [b5 (by omega)] <;> rfl) | (rw [b7 (by omega) (by omega)] <;> rfl)
  · obtain rfl := str_none h0
    refine post_gen fun R hR => ?_
    go_enter Tryd.func89, Tryd.ntmps89
    go_wp2_with fail
    exact hR.out _ _ ⟨rfl, rfl⟩

theorem byteCells_snoc (l : List UInt8) (c : UInt8) : byteCells l ++ [.int .u8 c.toNat] = byteCells (l ++ [c]) := by simp [byteCells]
def unAns : List UInt8 ⊕ Nat → Value
  | .inl t => .tuple #[.string (mkS t), .agg #[.int .i64 0, .int .i64 0]]
  | .inr k => .tuple #[.string ⟨#[]⟩, .agg #[.int .i64 20, .int .i64 k]]
def FaultAt (w : World) (b : Nat) (x y : Int) : Prop := w.heap[b]? = some (.cells #[.int .i64 x, .int .i64 y] 29 (0, 0))
theorem FaultAt.new (w : World) (x y : Int) : FaultAt (w.alloc (.cells #[.int .i64 x, .int .i64 y] 29)) w.heap.size x y := blk_new _ _
theorem FaultAt.cells {w : World} {b : Nat} {x y : Int} (h : FaultAt w b x y) : w.cell? ⟨b, 0, none⟩ = some (.int .i64 x) ∧ w.cell? ⟨b, 1, none⟩ = some (.int .i64 y) ∧ w.frozen? ⟨b, 0, none⟩ = false ∧ w.frozen? ⟨b, 1, none⟩ = false :=
  ⟨blk_cell h 0, blk_cell h 1, blk_frozen h 0, blk_frozen h 1⟩
theorem FaultAt.set {w : World} {b : Nat} {x y : Int} (h : FaultAt w b x y) (u v : Int) : FaultAt ((w.setCell ⟨b, 0, none⟩ (.int .i64 u)).setCell ⟨b, 1, none⟩ (.int .i64 v)) b u v := blk_set (blk_set h 0 _) 1 _
theorem Keeps.fault {S : Nat → Prop} {a w : World} (h : Keeps S a w) {b : Nat} (hb : b < a.heap.size → S b) (u v : Value) : Keeps S a ((w.setCell ⟨b, 0, none⟩ u).setCell ⟨b, 1, none⟩ v) := (h.setCell (p := ⟨b, 0, none⟩) hb u).setCell (p := ⟨b, 1, none⟩) hb v
theorem drop_list (s : ByteArray) (k : Nat) : (s.extract k s.size).data.toList = s.data.toList.drop k := by
  have e : s.data.toList.length = s.size := by simp
  simp
  rw [List.take_of_length_le (by simp)]
set_option maxHeartbeats 1000000 in
theorem str_Unescape (s : ByteArray) (w : World) (hs : s.size ≤ 140737488351232) : Calls Tryd.prog 72 #[.string s] w fun e w' => e = .returned (unAns (unesc s.data.toList)) ∧ Keeps (fun _ => False) w w' := by
  have Z := hidden (unAt_zero s.data.toList)
  have HL := hidden (list_len s)
  generalize unesc s.data.toList = r at *
  refine post_gen fun R hR => ?_
  go_enter Tryd.func72, Tryd.ntmps72
  have HF0 := FaultAt.new w 0 0
  have HK0 := hidden ((Keeps.refl (fun _ => False) w).alloc (.cells #[.int .i64 0, .int .i64 0] 29))
  have hw0 : w.heap.size + 1 = (w.alloc (.cells #[.int .i64 0, .int .i64 0] 29)).heap.size := by simp
  have hsz0 : w.heap.size < (w.alloc (.cells #[.int .i64 0, .int .i64 0] 29)).heap.size := by simp
  have HZ := hidden hw0
  have HFF := hidden HF0
  clear hw0 HF0
  go_wp2_with (at_make; refine mk0_list _ rfl _ _ _ rfl _ _ 1 1 Tryd.underlying53 info_uint8 _ _ _ s.size rfl rfl rfl (by omega) (by omega) ?_; intro w1 hR1 hK1; have HR1 := hidden hR1; have HK1 := hidden hK1; clear hR1 hK1)
  generalize w.alloc (.cells #[.int .i64 0, .int .i64 0] 29) = w0 at *
  go_loopw [4, 5] (fun o i wr => ∃ (k : Nat) (l : List UInt8) (A : Option Addr) (c : Nat) (F' : Nat → Prop), k ≤ s.size ∧ l.length ≤ k ∧ i = .int .i64 k ∧ o = .slice A l.length c ∧ Row wr F' 5 1 (.slice A l.length c) l.length (byteCells l) ∧ Keeps (fun _ => False) w0 wr ∧ Fresh (fun _ => False) F' w0 ∧ ahd l (unAt s.data.toList k) = r) (fun _ i _ => s.size - (intOf i).toNat)
  case atStart => exact ⟨0, [], some ⟨w0.heap.size, 0, none⟩, s.size, fun j => j = w0.heap.size, Nat.zero_le _, Nat.zero_le _, rfl, by rw [HZ.out]; rfl, HR1.out, HK1.out, fun j hj => .inr (Nat.le_of_eq (Eq.symm hj)), Z.out⟩
  case round =>
    obtain ⟨k, l, A, c, F', hk, hl, rfl, rfl, hRow, hK, hF, heq⟩ := hrel
    have HR := hidden hRow
    have HK := hidden hK
    have HEQ := hidden heq
    have HFr := hK.heap HFF.out (fun h => h)
    obtain ⟨q0, q1, z0, z1⟩ := FaultAt.cells HFr
    have hwr := hK.size
    clear hRow heq hK HFr HR1 HK1
    by_cases hlt : k < s.size
    · have HG := hidden (at_list s hlt)
      have HKL := hidden (show k < s.data.toList.length by rw [HL.out]; exact hlt)
      by_cases hc : s[k].toNat = 92
      · have i1 : ((s[k].toNat : Int) == 92) = true := by simp; omega
        have i2 : ((s[k].toNat : Int) != 92) = false := by simp; omega
        have hsz2 : (s.extract (k + 1) s.size).size ≤ 140737488355328 := by simp; omega
        have hB := str_behind (s.extract (k + 1) s.size) wr hsz2
        have hbad := unAt_bad l HKL.out (by rw [HG.out]; exact hc)
        have hesc := unAt_esc l HKL.out (by rw [HG.out]; exact hc)
        have hlt2 := beh_lt (s.data.toList.drop (k + 1))
        have hle2 := beh_le (s.data.toList.drop (k + 1))
        rw [List.length_drop, HL.out] at hle2
        rw [drop_list] at hB
        clear hc
        generalize beh (s.data.toList.drop (k + 1)) = p at *
        obtain ⟨bv, bn⟩ := p
        simp only at hB hbad hesc hlt2 hle2
        have HB := hidden hB
        have HBAD := hidden hbad
        have HESC := hidden hesc
        clear hB hbad hesc
        by_cases hb : bn = 0
        · subst hb
          go_wp2_with (go_at_call 89; refine HB.out.mono ?_; rintro e wx ⟨rfl, rfl⟩)
          obtain ⟨d0, d1, -, -⟩ := ((show FaultAt wr w.heap.size 0 0 from HK.out.heap HFF.out (fun h => h)).set 20 k).cells
          refine bodyPost_ret (v := .tuple #[.string ⟨#[]⟩, .agg #[.int .i64 20, .int .i64 k]]) (by simp [results, Tryd.results72, go_sem, d0, d1]) rfl (hR.out _ _ ⟨?_, (HK0.out.trans HK.out (fun _ _ h => h)).fault (fun h => absurd h (Nat.lt_irrefl _)) _ _⟩)
          rw [← HEQ.out, HBAD.out trivial]; rfl
        · have i3 : ((bn : Int) == 0) = false := by simp; omega
          have HBN := hidden hb
          clear hb
          go_wp2_with (first | (go_at_call 89; refine HB.out.mono ?_; rintro e wx ⟨rfl, rfl⟩) | (at_builtin; refine app_list rfl F' _ _ _ _ _ _ 1 1 rfl Tryd.underlying53 info_uint8 rfl (by decide) _ _ _ rfl (HR.out.alloc _) _ rfl _ _ (src_one wr _ _ Tryd.underlying53 rfl) (by simp; omega) (by simp; omega) ?_; intro A2 c2 w2 hR2 hK2; have HR2 := hidden hR2; have HK2 := hidden hK2; clear hR2 hK2))
          go_roundw
          case rel =>
            obtain ⟨g1, g2, g3⟩ := app_lit_end HR.out HK.out hF HR2.out HK2.out
            have eb : (.int .u8 (bv : Int) : Value) = .int .u8 (UInt8.ofNat bv).toNat := by simp [Nat.mod_eq_of_lt hlt2]
            rw [eb, byteCells_snoc] at g1
            exact ⟨k + bn + 1, l ++ [UInt8.ofNat bv], A2, c2, _, by omega, by simp; omega, by go_num, by simp, by simpa using g1, g2, g3, by rw [show k + bn + 1 = k + 1 + bn by omega, ← HESC.out HBN.out]; exact HEQ.out⟩
          case measure => simp [intOf]; omega
      · have i1 : ((s[k].toNat : Int) == 92) = false := by simp; omega
        have i2 : ((s[k].toNat : Int) != 92) = true := by simp; omega
        have HC := hidden hc
        clear hc
        go_wp2_with (at_builtin; refine app_list rfl F' _ _ _ _ _ _ 1 1 rfl Tryd.underlying53 info_uint8 rfl (by decide) _ _ _ rfl (HR.out.alloc _) _ rfl _ _ (src_one wr _ _ Tryd.underlying53 rfl) (by simp; omega) (by simp; omega) ?_; intro A2 c2 w2 hR2 hK2; have HR2 := hidden hR2; have HK2 := hidden hK2; clear hR2 hK2)
        go_roundw
        case rel =>
          obtain ⟨g1, g2, g3⟩ := app_lit_end HR.out HK.out hF HR2.out HK2.out
          rw [byteCells_snoc] at g1
          exact ⟨k + 1, l ++ [s[k]'hlt], A2, c2, _, hlt, by simp; omega, by go_num, by simp, by simpa using g1, g2, g3, by rw [← HG.out, ← unAt_plain l HKL.out (by rw [HG.out]; exact HC.out)]; exact HEQ.out⟩
        case measure => simp [intOf]; omega
    · obtain rfl : k = s.size := by omega
      have hrun := own_text (P := Tryd.prog) Tryd.underlying53 Tryd.underlying5 Tryd.underlying9 HR.out.1
      go_wp2_with fail
      obtain ⟨d0, d1, -, -⟩ := ((show FaultAt wr w.heap.size 0 0 from HK.out.heap HFF.out (fun h => h)).set 0 0).cells
      refine bodyPost_ret (v := .tuple #[.string (mkS l), .agg #[.int .i64 0, .int .i64 0]]) (by simp [results, Tryd.results72, go_sem, d0, d1, mkS]) rfl (hR.out _ _ ⟨?_, (HK0.out.trans HK.out (fun _ _ h => h)).fault (fun h => absurd h (Nat.lt_irrefl _)) _ _⟩)
      rw [← HEQ.out, unAt_end _ _ _ (by rw [HL.out]; exact Nat.le_refl _)]; rfl
end Go.Proofs.YtafndbmjohhhpaaDoor
namespace Go.Proofs.YtafndbmjohhhpaaDoor
open Go.RowKit
set_option maxRecDepth 100000

theorem mkS_list (s : ByteArray) : mkS s.data.toList = s := by apply ByteArray.ext; simp [mkS]
end Go.Proofs.YtafndbmjohhhpaaDoor
namespace Go.Proofs.YtafndbmjohhhpaaDoor
open Go.RowKit
set_option maxRecDepth 100000

theorem letterB_is (c : UInt8) : letterB c = true ↔ ((97 ≤ c.toNat ∧ c.toNat ≤ 122) ∨ (65 ≤ c.toNat ∧ c.toNat ≤ 90) ∨ c.toNat = 95) := by simp [letterB, or_assoc]
theorem digitB_is (c : UInt8) : digitB c = true ↔ (48 ≤ c.toNat ∧ c.toNat ≤ 57) := by simp [digitB]
theorem nameB_iff (l : List UInt8) : nameB l = true ↔ l ≠ [] ∧ ∀ i (h : i < l.length), letterB l[i] = true ∨ (i ≠ 0 ∧ digitB l[i] = true) := by
  cases l with
  | nil => simp [nameB]
  | cons c r =>
    simp only [nameB, Bool.and_eq_true, List.all_eq_true, Bool.or_eq_true]
    constructor
    · rintro ⟨h1, h2⟩
      refine ⟨by simp, fun i hi => ?_⟩
      cases i with
      | zero => exact .inl h1
      | succ i =>
        have hi' : i < r.length := by simpa using hi
        have := h2 r[i] (List.getElem_mem _)
        simp only [List.getElem_cons_succ]
        rcases this with h | h
        · exact .inl h
        · exact .inr ⟨by simp, h⟩
    · rintro ⟨-, h⟩
      refine ⟨?_, fun d hd => ?_⟩
      · rcases h 0 (by simp) with h0 | h0
        · exact h0
        · exact absurd rfl h0.1
      · obtain ⟨i, hi, rfl⟩ := List.mem_iff_getElem.1 hd
        rcases h (i + 1) (by simpa using hi) with h0 | h0
        · exact .inl h0
        · exact .inr h0.2
def NameTo (l : List UInt8) (k : Nat) : Prop := ∀ i (h : i < l.length), i < k → letterB l[i] = true ∨ (i ≠ 0 ∧ digitB l[i] = true)
set_option maxHeartbeats 1000000 in
theorem str_Name (s : ByteArray) (w : World) (hs : s.size ≤ 140737488351232) : Calls Tryd.prog 26 #[.string s] w fun e w' => e = .returned (.bool (nameB s.data.toList)) ∧ w = w' := by
  have LA := hidden (list_len s)
  refine post_gen fun R hR => ?_
  go_enter Tryd.func26, Tryd.ntmps26
  go_wp2_with fail
  go_loop [8] (fun i => ∃ k : Nat, k ≤ s.size ∧ i = .int .i64 k ∧ Hid (NameTo s.data.toList k)) (fun i => s.size - (intOf i).toNat)
  case atStart => exact ⟨0, Nat.zero_le _, rfl, hidden (fun i _ h => absurd h (by omega))⟩
  case round =>
    obtain ⟨k, hk, rfl, HN⟩ := hrel
    by_cases hlt : k < s.size
    · have HA := hidden (at_list s hlt)
      have hc : s[k].toNat < 256 := s[k].toNat_lt
      have good : Hid ((letterB s[k] = true ∨ (k ≠ 0 ∧ digitB s[k] = true)) → NameTo s.data.toList (k + 1)) := hidden (fun h i hi hlt => by
        rcases Nat.lt_succ_iff_lt_or_eq.1 hlt with h1 | rfl
        · exact HN.out i hi h1
        · rw [HA.out]; exact h)
      have bad : Hid (¬ (letterB s[k] = true ∨ (k ≠ 0 ∧ digitB s[k] = true)) → nameB s.data.toList = false) := hidden (fun h => by
        rw [← Bool.not_eq_true, nameB_iff]
        rintro ⟨-, h2⟩
        have := h2 k (by rw [LA.out]; exact hlt)
        rw [HA.out] at this
        exact h this)
      have hL := hidden (letterB_is s[k])
      have hD := hidden (digitB_is s[k])
      clear HN HA
      by_cases hk0 : k = 0
      · have i0 : ((k : Int) == 0) = true := by simp; omega
        have HK0 := hidden hk0
        clear hk0
        rcases (show s[k].toNat < 65 ∨ (65 ≤ s[k].toNat ∧ s[k].toNat ≤ 90) ∨ (90 < s[k].toNat ∧ s[k].toNat < 95) ∨ s[k].toNat = 95 ∨ (95 < s[k].toNat ∧ s[k].toNat < 97) ∨ (97 ≤ s[k].toNat ∧ s[k].toNat ≤ 122) ∨ 122 < s[k].toNat by omega) with h | ⟨h, h'⟩ | ⟨h, h'⟩ | h | ⟨h, h'⟩ | ⟨h, h'⟩ | h
        all_goals
          have HH := hidden h
          first | have d1 : decide ((s[k].toNat : Int) ≤ 122) = true := by simp; omega | have d1 : decide ((s[k].toNat : Int) ≤ 122) = false := by simp; omega
          first | have d2 : decide ((s[k].toNat : Int) ≤ 90) = true := by simp; omega | have d2 : decide ((s[k].toNat : Int) ≤ 90) = false := by simp; omega
          try first | have d3 : decide ((s[k].toNat : Int) ≤ 57) = true := by simp; omega | have d3 : decide ((s[k].toNat : Int) ≤ 57) = false := by simp; omega
          first | have i1 : ((s[k].toNat : Int) == 95) = true := by simp; omega | have i1 : ((s[k].toNat : Int) == 95) = false := by simp; omega
          try (have h5 : s[k].toNat = 95 := h; clear h h5)
          go_wp2
        all_goals
          first
            | (refine hR.out _ _ ⟨show Ending.returned (.bool _) = .returned (.bool _) from ret_bool ?_, rfl⟩
               rw [bad.out (by rw [hL.out, hD.out]; have := HK0.out; have := HH.out; omega)])
            | (go_round
               case rel => exact ⟨k + 1, by omega, by go_num, hidden (good.out (by rw [hL.out, hD.out]; have := HK0.out; have := HH.out; omega))⟩
               case measure => simp [intOf]; omega)
      · have i0 : ((k : Int) == 0) = false := by simp; omega
        have HK0 := hidden hk0
        clear hk0
        rcases (show s[k].toNat < 48 ∨ (48 ≤ s[k].toNat ∧ s[k].toNat ≤ 57) ∨ (57 < s[k].toNat ∧ s[k].toNat < 65) ∨ (65 ≤ s[k].toNat ∧ s[k].toNat ≤ 90) ∨ (90 < s[k].toNat ∧ s[k].toNat < 95) ∨ s[k].toNat = 95 ∨ (95 < s[k].toNat ∧ s[k].toNat < 97) ∨ (97 ≤ s[k].toNat ∧ s[k].toNat ≤ 122) ∨ 122 < s[k].toNat by omega) with h | ⟨h, h'⟩ | ⟨h, h'⟩ | ⟨h, h'⟩ | ⟨h, h'⟩ | h | ⟨h, h'⟩ | ⟨h, h'⟩ | h
        all_goals
          have HH := hidden h
          first | have d1 : decide ((s[k].toNat : Int) ≤ 122) = true := by simp; omega | have d1 : decide ((s[k].toNat : Int) ≤ 122) = false := by simp; omega
          first | have d2 : decide ((s[k].toNat : Int) ≤ 90) = true := by simp; omega | have d2 : decide ((s[k].toNat : Int) ≤ 90) = false := by simp; omega
          try first | have d3 : decide ((s[k].toNat : Int) ≤ 57) = true := by simp; omega | have d3 : decide ((s[k].toNat : Int) ≤ 57) = false := by simp; omega
          first | have i1 : ((s[k].toNat : Int) == 95) = true := by simp; omega | have i1 : ((s[k].toNat : Int) == 95) = false := by simp; omega
          try (have h5 : s[k].toNat = 95 := h; clear h h5)
          go_wp2
        all_goals
          first
            | (refine hR.out _ _ ⟨show Ending.returned (.bool _) = .returned (.bool _) from ret_bool ?_, rfl⟩
               rw [bad.out (by rw [hL.out, hD.out]; have := HK0.out; have := HH.out; omega)])
            | (go_round
               case rel => exact ⟨k + 1, by omega, by go_num, hidden (good.out (by rw [hL.out, hD.out]; have := HK0.out; have := HH.out; omega))⟩
               case measure => simp [intOf]; omega)
    · obtain rfl : k = s.size := by omega
      by_cases h0 : 0 < s.size
      · have hne := str_some h0
        go_wp2
        refine hR.out _ _ ⟨show Ending.returned (.bool _) = .returned (.bool _) from ret_bool ?_, rfl⟩
        symm
        rw [nameB_iff]
        exact ⟨fun e => by have := LA.out; rw [e] at this; simp at this; omega, fun i hi => HN.out i hi (by rw [← LA.out]; exact hi)⟩
      · obtain rfl := str_none h0
        go_wp2
        exact hR.out _ _ ⟨rfl, rfl⟩
end Go.Proofs.YtafndbmjohhhpaaDoor
namespace Go.Proofs.YtafndbmjohhhpaaDoor
open Go.RowKit
set_option maxRecDepth 100000

def BytesAt (w : World) (g : Nat) (l : List UInt8) (sp : Array Value) : Prop := w.heap[g]? = some (.cells ((byteCells l).toArray ++ sp) 5 (l.length + sp.size, l.length + sp.size + 1))
theorem BytesAt.cell {w : World} {g : Nat} {l : List UInt8} {sp : Array Value} (h : BytesAt w g l sp) {k : Nat} (hk : k < l.length) : w.cell? ⟨g, k, none⟩ = some (.int .u8 l[k].toNat) := by
  rw [blk_cell h, Array.getElem?_append_left (by simp [byteCells]; exact hk)]
  simp [byteCells, hk]
theorem BytesAt.frozen {w : World} {g : Nat} {l : List UInt8} {sp : Array Value} (h : BytesAt w g l sp) {k : Nat} (hk : k < l.length) : w.frozen? ⟨g, k, none⟩ = false := by
  simp only [World.frozen?, show w.heap[g]? = _ from h]
  simp; omega
theorem BytesAt.set {w : World} {g : Nat} {l : List UInt8} {sp : Array Value} (h : BytesAt w g l sp) {k : Nat} (hk : k < l.length) (c : UInt8) : BytesAt (w.setCell ⟨g, k, none⟩ (.int .u8 c.toNat)) g (l.set k c) sp := by
  have e : (byteCells l).toArray.setIfInBounds k (.int .u8 c.toNat) = (byteCells (l.set k c)).toArray := by
    simp [byteCells]
  unfold BytesAt at h ⊢
  simp only [World.setCell, Array.getElem?_modify, h]
  simp only [if_true, Option.map_some, List.length_set]
  rw [Array.setIfInBounds_append_left (by simp [byteCells]; exact hk), e]
  simp
theorem Keeps.bytes {S : Nat → Prop} {a w : World} (h : Keeps S a w) (e : TypeId) (s : ByteArray) : Keeps S a (Lib.bytesWorld w e s) := by
  refine ⟨h.os, h.tape, h.output, ?_, fun i hi hn => ?_⟩
  · rw [Lib.bytesWorld_size]; have := h.size; omega
  · rw [Lib.bytesWorld_at_old w e s i (Nat.lt_of_lt_of_le hi h.size)]; exact h.block i hi hn
end Go.Proofs.YtafndbmjohhhpaaDoor
namespace Go.Proofs
open Go.Shelf
def Tryd.lays169_ren : Go.Shelf.Ren := ⟨fun | 169 => 41 | n => n, fun | 70 => 71 | 9 => 9 | 0 => 0 | 72 => 73 | 37 => 53 | 127 => 91 | 3 => 3 | 5 => 5 | n => n, fun | n => n⟩
theorem Tryd.lays169 : Go.Proofs.Lays.n169 Tryd.prog Tryd.lays169_ren := {
  mixed := by kernel_rfl
  f169 := Tryd.func41.trans (congrArg some (by kernel_rfl))
  t0 := Tryd.underlying0
  a0 := Tryd.isAgg0
  z0 := Tryd.sizeOf0
  v0 := Tryd.zeroValue0
  t3 := Tryd.underlying3
  a3 := Tryd.isAgg3
  z3 := Tryd.sizeOf3
  v3 := Tryd.zeroValue3
  t9 := Tryd.underlying9
  a9 := Tryd.isAgg9
  z9 := Tryd.sizeOf9
  v9 := Tryd.zeroValue9
  t37 := Tryd.underlying53
  a37 := Tryd.isAgg53
  z37 := Tryd.sizeOf53
  v37 := Tryd.zeroValue53
  t70 := Tryd.underlying71
  a70 := Tryd.isAgg71
  z70 := Tryd.sizeOf71
  v70 := Tryd.zeroValue71
  t72 := Tryd.underlying73
  a72 := Tryd.isAgg73
  z72 := Tryd.sizeOf73
  v72 := Tryd.zeroValue73
  t127 := Tryd.underlying91
  a127 := Tryd.isAgg91
  z127 := Tryd.sizeOf91
  v127 := Tryd.zeroValue91 }
theorem Tryd.Builder_Extra_169 : Builder.Extra Tryd.prog Tryd.lays169_ren := {
  sizeBuilder := by kernel_rfl
  liesBuilder := by kernel_rfl
  t5 := Tryd.underlying5
  a5 := Tryd.isAgg5
  z5 := Tryd.sizeOf5
  v5 := Tryd.zeroValue5
  infoByte := by kernel_rfl
  cellsByte := by kernel_rfl
  sizeByte := by kernel_rfl
  neB5 := by decide }
open Go.RowKit in
theorem Tryd.Builder_String_any (B b : Nat) (l : List UInt8) (w : World) (h : Lib.IsBuilder 73 5 B b (Lib.byteCells l) w) (hBw : B ≤ w.heap.size) :
    Calls Tryd.prog 41 #[.pointer (some ⟨b, 0, none⟩)] w fun e w' => e = .returned (.string ⟨l.toArray⟩) ∧ Below B w w' := Any.Builder_String_any Tryd.lays169 Tryd.Builder_Extra_169 B b l w h hBw
def Tryd.lays161_ren : Go.Shelf.Ren := ⟨fun | 161 => 69 | 231 => 83 | 227 => 84 | 233 => 85 | 235 => 86 | 228 => 92 | 197 => 79 | 151 => 93 | 260 => 91 | 152 => 95 | 137 => 48 | 119 => 96 | 224 => 76 | 225 => 75 | 217 => 65 | 266 => 81 | n => n, fun | 9 => 9 | 4 => 4 | 3 => 3 | 5 => 5 | 117 => 116 | 116 => 115 | 0 => 0 | 124 => 119 | 105 => 111 | 21 => 21 | 119 => 125 | 46 => 79 | 139 => 128 | 138 => 127 | n => n, fun | 3 => 1 | 4 => 2 | n => n⟩
theorem Tryd.lays161 : Go.Proofs.Lays.n161 Tryd.prog Tryd.lays161_ren := {
  mixed := by kernel_rfl
  f119 := Tryd.func96.trans (congrArg some (by kernel_rfl))
  f137 := Tryd.func48.trans (congrArg some (by kernel_rfl))
  f151 := Tryd.func93.trans (congrArg some (by kernel_rfl))
  f152 := Tryd.func95.trans (congrArg some (by kernel_rfl))
  f161 := Tryd.func69.trans (congrArg some (by kernel_rfl))
  f197 := Tryd.func79.trans (congrArg some (by kernel_rfl))
  f217 := Tryd.func65.trans (congrArg some (by kernel_rfl))
  f224 := Tryd.func76.trans (congrArg some (by kernel_rfl))
  f225 := Tryd.func75.trans (congrArg some (by kernel_rfl))
  f227 := Tryd.func84.trans (congrArg some (by kernel_rfl))
  f228 := Tryd.func92.trans (congrArg some (by kernel_rfl))
  f231 := Tryd.func83.trans (congrArg some (by kernel_rfl))
  f233 := Tryd.func85.trans (congrArg some (by kernel_rfl))
  f235 := Tryd.func86.trans (congrArg some (by kernel_rfl))
  f260 := Tryd.func91.trans (congrArg some (by kernel_rfl))
  f266 := Tryd.func81.trans (congrArg some (by kernel_rfl))
  t0 := Tryd.underlying0
  a0 := Tryd.isAgg0
  z0 := Tryd.sizeOf0
  v0 := Tryd.zeroValue0
  t3 := Tryd.underlying3
  a3 := Tryd.isAgg3
  z3 := Tryd.sizeOf3
  v3 := Tryd.zeroValue3
  t4 := Tryd.underlying4
  a4 := Tryd.isAgg4
  z4 := Tryd.sizeOf4
  v4 := Tryd.zeroValue4
  t5 := Tryd.underlying5
  a5 := Tryd.isAgg5
  z5 := Tryd.sizeOf5
  v5 := Tryd.zeroValue5
  t9 := Tryd.underlying9
  a9 := Tryd.isAgg9
  z9 := Tryd.sizeOf9
  v9 := Tryd.zeroValue9
  t21 := Tryd.underlying21
  a21 := Tryd.isAgg21
  z21 := Tryd.sizeOf21
  v21 := Tryd.zeroValue21
  t46 := Tryd.underlying79
  a46 := Tryd.isAgg79
  z46 := Tryd.sizeOf79
  v46 := Tryd.zeroValue79
  t105 := Tryd.underlying111
  a105 := Tryd.isAgg111
  z105 := Tryd.sizeOf111
  v105 := Tryd.zeroValue111
  t116 := Tryd.underlying115
  a116 := Tryd.isAgg115
  z116 := Tryd.sizeOf115
  t117 := Tryd.underlying116
  a117 := Tryd.isAgg116
  z117 := Tryd.sizeOf116
  v117 := Tryd.zeroValue116
  t119 := Tryd.underlying125
  a119 := Tryd.isAgg125
  z119 := Tryd.sizeOf125
  t124 := Tryd.underlying119
  a124 := Tryd.isAgg119
  z124 := Tryd.sizeOf119
  v124 := Tryd.zeroValue119
  t138 := Tryd.underlying127
  a138 := Tryd.isAgg127
  z138 := Tryd.sizeOf127
  v138 := Tryd.zeroValue127
  t139 := Tryd.underlying128
  a139 := Tryd.isAgg128
  z139 := Tryd.sizeOf128
  v139 := Tryd.zeroValue128
  g3 := by kernel_rfl
  g4 := by kernel_rfl }
open Go.RowKit in
theorem Tryd.strings_TrimLeft_one (s : ByteArray) (c : UInt8) (hc : c.toNat < 128) (w : World) :
    Calls Tryd.prog 69 #[.string s, .string ⟨#[c]⟩] w fun e w' => e = .returned (.string ⟨(Lib.trimLeftB s.data.toList c).toArray⟩) ∧ w' = w := Any.strings_TrimLeft_one Tryd.lays161 s c hc w
def Tryd.lays137_ren : Go.Shelf.Ren := ⟨fun | 137 => 48 | 217 => 65 | 266 => 81 | n => n, fun | 9 => 9 | 5 => 5 | 3 => 3 | n => n, fun | n => n⟩
theorem Tryd.lays137 : Go.Proofs.Lays.n137 Tryd.prog Tryd.lays137_ren := {
  mixed := by kernel_rfl
  f137 := Tryd.func48.trans (congrArg some (by kernel_rfl))
  f217 := Tryd.func65.trans (congrArg some (by kernel_rfl))
  f266 := Tryd.func81.trans (congrArg some (by kernel_rfl))
  t3 := Tryd.underlying3
  a3 := Tryd.isAgg3
  z3 := Tryd.sizeOf3
  v3 := Tryd.zeroValue3
  t5 := Tryd.underlying5
  a5 := Tryd.isAgg5
  z5 := Tryd.sizeOf5
  v5 := Tryd.zeroValue5
  t9 := Tryd.underlying9
  a9 := Tryd.isAgg9
  z9 := Tryd.sizeOf9
  v9 := Tryd.zeroValue9 }
open Go.RowKit in
theorem Tryd.strings_IndexByte (s : ByteArray) (c : Int) (w : World) :
    Calls Tryd.prog 48 #[.string s, .int .u8 c] w fun e w' => e = .returned (.int .i64 (Lib.indexByte s.data.toList c.toNat.toUInt8)) ∧ w' = w := Any.strings_IndexByte Tryd.lays137 s c w
def Tryd.lays103_ren : Go.Shelf.Ren := ⟨fun | 103 => 68 | 210 => 82 | 206 => 60 | n => n, fun | 9 => 9 | 4 => 4 | 24 => 99 | 3 => 3 | n => n, fun | n => n⟩
theorem Tryd.lays103 : Go.Proofs.Lays.n103 Tryd.prog Tryd.lays103_ren := {
  mixed := by kernel_rfl
  f103 := Tryd.func68.trans (congrArg some (by kernel_rfl))
  f206 := Tryd.func60.trans (congrArg some (by kernel_rfl))
  f210 := Tryd.func82.trans (congrArg some (by kernel_rfl))
  t3 := Tryd.underlying3
  a3 := Tryd.isAgg3
  z3 := Tryd.sizeOf3
  v3 := Tryd.zeroValue3
  t4 := Tryd.underlying4
  a4 := Tryd.isAgg4
  z4 := Tryd.sizeOf4
  v4 := Tryd.zeroValue4
  t9 := Tryd.underlying9
  a9 := Tryd.isAgg9
  z9 := Tryd.sizeOf9
  v9 := Tryd.zeroValue9
  t24 := Tryd.underlying99
  a24 := Tryd.isAgg99
  z24 := Tryd.sizeOf99
  v24 := Tryd.zeroValue99 }
open Go.RowKit in
theorem Tryd.strings_CutPrefix (s p : ByteArray) (w : World) :
    Calls Tryd.prog 68 #[.string s, .string p] w fun e w' => e = .returned (.tuple #[.string ⟨(Lib.trimPrefix s.data.toList p.data.toList).toArray⟩, .bool (Lib.hasPrefix s.data.toList p.data.toList)]) ∧ w' = w := Any.strings_CutPrefix Tryd.lays103 s p w
open Go.RowKit in
theorem Tryd.Builder_String_any_k (B b : Nat) (l : List UInt8) (w : World) (h : Lib.IsBuilderF 73 5 B b (Lib.byteCells l) w) (hBw : B ≤ w.heap.size) :
    Calls Tryd.prog 41 #[.pointer (some ⟨b, 0, none⟩)] w fun e w' => e = .returned (.string ⟨l.toArray⟩) ∧ (Lib.IsBuilderF 73 5 B b (Lib.byteCells l) w' ∧ Below B w w' ∧ Lib.OthersKept 5 (some b) w w') := Any.Builder_String_any_k Tryd.lays169 Tryd.Builder_Extra_169 B b l w h hBw
def Tryd.lays143_ren : Go.Shelf.Ren := ⟨fun | 143 => 46 | 219 => 62 | 217 => 65 | 225 => 75 | 224 => 76 | 267 => 77 | 266 => 81 | 314 => 90 | n => n, fun | 9 => 9 | 3 => 3 | 4 => 4 | 5 => 5 | 46 => 79 | 146 => 93 | 51 => 92 | n => n, fun | 1 => 0 | n => n⟩
theorem Tryd.lays143 : Go.Proofs.Lays.n143 Tryd.prog Tryd.lays143_ren := {
  mixed := by kernel_rfl
  f143 := Tryd.func46.trans (congrArg some (by kernel_rfl))
  f217 := Tryd.func65.trans (congrArg some (by kernel_rfl))
  f219 := Tryd.func62.trans (congrArg some (by kernel_rfl))
  f224 := Tryd.func76.trans (congrArg some (by kernel_rfl))
  f225 := Tryd.func75.trans (congrArg some (by kernel_rfl))
  f266 := Tryd.func81.trans (congrArg some (by kernel_rfl))
  f267 := Tryd.func77.trans (congrArg some (by kernel_rfl))
  f314 := Tryd.func90.trans (congrArg some (by kernel_rfl))
  t3 := Tryd.underlying3
  a3 := Tryd.isAgg3
  z3 := Tryd.sizeOf3
  v3 := Tryd.zeroValue3
  t4 := Tryd.underlying4
  a4 := Tryd.isAgg4
  z4 := Tryd.sizeOf4
  v4 := Tryd.zeroValue4
  t5 := Tryd.underlying5
  a5 := Tryd.isAgg5
  z5 := Tryd.sizeOf5
  v5 := Tryd.zeroValue5
  t9 := Tryd.underlying9
  a9 := Tryd.isAgg9
  z9 := Tryd.sizeOf9
  v9 := Tryd.zeroValue9
  t46 := Tryd.underlying79
  a46 := Tryd.isAgg79
  z46 := Tryd.sizeOf79
  v46 := Tryd.zeroValue79
  t51 := Tryd.underlying92
  a51 := Tryd.isAgg92
  z51 := Tryd.sizeOf92
  v51 := Tryd.zeroValue92
  t146 := Tryd.underlying93
  a146 := Tryd.isAgg93
  z146 := Tryd.sizeOf93
  v146 := Tryd.zeroValue93
  g1 := by kernel_rfl }
open Go.RowKit Go.Lib in
theorem Tryd.strings_Index (s sub : ByteArray) (m : Int) (w : World) (hs : s.size < 4294967281) (hm : w.cell? ⟨0, 0, none⟩ = some (.int .i64 m)) :
    Calls Tryd.prog 46 #[.string s, .string sub] w fun e w' => e = .returned (.int .i64 (Lib.index s.data.toList sub.data.toList)) ∧ w' = w := Any.strings_Index Tryd.lays143 s sub m w hs hm
def Tryd.lays144_ren : Go.Shelf.Ren := ⟨fun | 144 => 27 | 143 => 46 | 219 => 62 | 217 => 65 | 225 => 75 | 224 => 76 | 267 => 77 | 266 => 81 | 314 => 90 | n => n, fun | 9 => 9 | 4 => 4 | 3 => 3 | 5 => 5 | 46 => 79 | 146 => 93 | 51 => 92 | n => n, fun | 1 => 0 | n => n⟩
theorem Tryd.lays144 : Go.Proofs.Lays.n144 Tryd.prog Tryd.lays144_ren := {
  mixed := by kernel_rfl
  f143 := Tryd.func46.trans (congrArg some (by kernel_rfl))
  f144 := Tryd.func27.trans (congrArg some (by kernel_rfl))
  f217 := Tryd.func65.trans (congrArg some (by kernel_rfl))
  f219 := Tryd.func62.trans (congrArg some (by kernel_rfl))
  f224 := Tryd.func76.trans (congrArg some (by kernel_rfl))
  f225 := Tryd.func75.trans (congrArg some (by kernel_rfl))
  f266 := Tryd.func81.trans (congrArg some (by kernel_rfl))
  f267 := Tryd.func77.trans (congrArg some (by kernel_rfl))
  f314 := Tryd.func90.trans (congrArg some (by kernel_rfl))
  t3 := Tryd.underlying3
  a3 := Tryd.isAgg3
  z3 := Tryd.sizeOf3
  v3 := Tryd.zeroValue3
  t4 := Tryd.underlying4
  a4 := Tryd.isAgg4
  z4 := Tryd.sizeOf4
  v4 := Tryd.zeroValue4
  t5 := Tryd.underlying5
  a5 := Tryd.isAgg5
  z5 := Tryd.sizeOf5
  v5 := Tryd.zeroValue5
  t9 := Tryd.underlying9
  a9 := Tryd.isAgg9
  z9 := Tryd.sizeOf9
  v9 := Tryd.zeroValue9
  t46 := Tryd.underlying79
  a46 := Tryd.isAgg79
  z46 := Tryd.sizeOf79
  v46 := Tryd.zeroValue79
  t51 := Tryd.underlying92
  a51 := Tryd.isAgg92
  z51 := Tryd.sizeOf92
  v51 := Tryd.zeroValue92
  t146 := Tryd.underlying93
  a146 := Tryd.isAgg93
  z146 := Tryd.sizeOf93
  v146 := Tryd.zeroValue93
  g1 := by kernel_rfl }
open Go.RowKit Go.Lib in
theorem Tryd.strings_Contains_one (s : ByteArray) (c : UInt8) (w : World) :
    Calls Tryd.prog 27 #[.string s, .string ⟨#[c]⟩] w fun e w' => e = .returned (.bool (decide (0 ≤ Lib.indexByte s.data.toList c))) ∧ w' = w := Any.strings_Contains_one Tryd.lays144 s c w
open Go.RowKit Go.Lib in
theorem Tryd.strings_Contains (s sub : ByteArray) (m : Int) (w : World) (hs : s.size < 4294967281) (hm : w.cell? ⟨0, 0, none⟩ = some (.int .i64 m)) :
    Calls Tryd.prog 27 #[.string s, .string sub] w fun e w' => e = .returned (.bool (Lib.contains s.data.toList sub.data.toList)) ∧ w' = w := Any.strings_Contains Tryd.lays144 s sub m w hs hm
def Tryd.lays99_ren : Go.Shelf.Ren := ⟨fun | 99 => 43 | 206 => 60 | n => n, fun | 9 => 9 | 4 => 4 | 3 => 3 | n => n, fun | n => n⟩
theorem Tryd.lays99 : Go.Proofs.Lays.n99 Tryd.prog Tryd.lays99_ren := {
  mixed := by kernel_rfl
  f99 := Tryd.func43.trans (congrArg some (by kernel_rfl))
  f206 := Tryd.func60.trans (congrArg some (by kernel_rfl))
  t3 := Tryd.underlying3
  a3 := Tryd.isAgg3
  z3 := Tryd.sizeOf3
  v3 := Tryd.zeroValue3
  t4 := Tryd.underlying4
  a4 := Tryd.isAgg4
  z4 := Tryd.sizeOf4
  v4 := Tryd.zeroValue4
  t9 := Tryd.underlying9
  a9 := Tryd.isAgg9
  z9 := Tryd.sizeOf9
  v9 := Tryd.zeroValue9 }
open Go.RowKit Go.Lib in
theorem Tryd.strings_HasPrefix (s p : ByteArray) (w : World) :
    Calls Tryd.prog 43 #[.string s, .string p] w fun e w' => e = .returned (.bool (Lib.hasPrefix s.data.toList p.data.toList)) ∧ w' = w := Any.strings_HasPrefix Tryd.lays99 s p w
def Tryd.lays146_ren : Go.Shelf.Ren := ⟨fun | 146 => 28 | 221 => 47 | 268 => 63 | 138 => 64 | 143 => 46 | 195 => 78 | 197 => 79 | 218 => 80 | 219 => 62 | 260 => 91 | 217 => 65 | 225 => 75 | 224 => 76 | 267 => 77 | 266 => 81 | 314 => 90 | n => n, fun | 9 => 9 | 31 => 36 | 3 => 3 | 4 => 4 | 0 => 0 | 105 => 111 | 21 => 21 | 5 => 5 | 46 => 79 | 119 => 125 | 139 => 128 | 138 => 127 | 146 => 93 | 51 => 92 | n => n, fun | 1 => 0 | 3 => 1 | 4 => 2 | n => n⟩
theorem Tryd.lays146 : Go.Proofs.Lays.n146 Tryd.prog Tryd.lays146_ren := {
  mixed := by kernel_rfl
  f138 := Tryd.func64.trans (congrArg some (by kernel_rfl))
  f143 := Tryd.func46.trans (congrArg some (by kernel_rfl))
  f146 := Tryd.func28.trans (congrArg some (by kernel_rfl))
  f195 := Tryd.func78.trans (congrArg some (by kernel_rfl))
  f197 := Tryd.func79.trans (congrArg some (by kernel_rfl))
  f217 := Tryd.func65.trans (congrArg some (by kernel_rfl))
  f218 := Tryd.func80.trans (congrArg some (by kernel_rfl))
  f219 := Tryd.func62.trans (congrArg some (by kernel_rfl))
  f221 := Tryd.func47.trans (congrArg some (by kernel_rfl))
  f224 := Tryd.func76.trans (congrArg some (by kernel_rfl))
  f225 := Tryd.func75.trans (congrArg some (by kernel_rfl))
  f260 := Tryd.func91.trans (congrArg some (by kernel_rfl))
  f266 := Tryd.func81.trans (congrArg some (by kernel_rfl))
  f267 := Tryd.func77.trans (congrArg some (by kernel_rfl))
  f268 := Tryd.func63.trans (congrArg some (by kernel_rfl))
  f314 := Tryd.func90.trans (congrArg some (by kernel_rfl))
  t0 := Tryd.underlying0
  a0 := Tryd.isAgg0
  z0 := Tryd.sizeOf0
  v0 := Tryd.zeroValue0
  t3 := Tryd.underlying3
  a3 := Tryd.isAgg3
  z3 := Tryd.sizeOf3
  v3 := Tryd.zeroValue3
  t4 := Tryd.underlying4
  a4 := Tryd.isAgg4
  z4 := Tryd.sizeOf4
  v4 := Tryd.zeroValue4
  t5 := Tryd.underlying5
  a5 := Tryd.isAgg5
  z5 := Tryd.sizeOf5
  v5 := Tryd.zeroValue5
  t9 := Tryd.underlying9
  a9 := Tryd.isAgg9
  z9 := Tryd.sizeOf9
  v9 := Tryd.zeroValue9
  t21 := Tryd.underlying21
  a21 := Tryd.isAgg21
  z21 := Tryd.sizeOf21
  v21 := Tryd.zeroValue21
  t31 := Tryd.underlying36
  a31 := Tryd.isAgg36
  z31 := Tryd.sizeOf36
  v31 := Tryd.zeroValue36
  t46 := Tryd.underlying79
  a46 := Tryd.isAgg79
  z46 := Tryd.sizeOf79
  v46 := Tryd.zeroValue79
  t51 := Tryd.underlying92
  a51 := Tryd.isAgg92
  z51 := Tryd.sizeOf92
  v51 := Tryd.zeroValue92
  t105 := Tryd.underlying111
  a105 := Tryd.isAgg111
  z105 := Tryd.sizeOf111
  v105 := Tryd.zeroValue111
  t119 := Tryd.underlying125
  a119 := Tryd.isAgg125
  z119 := Tryd.sizeOf125
  t138 := Tryd.underlying127
  a138 := Tryd.isAgg127
  z138 := Tryd.sizeOf127
  v138 := Tryd.zeroValue127
  t139 := Tryd.underlying128
  a139 := Tryd.isAgg128
  z139 := Tryd.sizeOf128
  v139 := Tryd.zeroValue128
  t146 := Tryd.underlying93
  a146 := Tryd.isAgg93
  z146 := Tryd.sizeOf93
  v146 := Tryd.zeroValue93
  g1 := by kernel_rfl
  g3 := by kernel_rfl
  g4 := by kernel_rfl }
open Go.RowKit Go.Lib in
theorem Tryd.strings_Split (s sep : ByteArray) (m : Int) (w : World) (hs : s.size < 4294967281) (hm : w.cell? ⟨0, 0, none⟩ = some (.int .i64 m)) (h1 : 1 ≤ sep.size) :
    Calls Tryd.prog 28 #[.string s, .string sep] w fun e w' =>
      e = .returned (.slice (some ⟨w.heap.size, 0, none⟩) (Lib.countB s sep + 1) (Lib.countB s sep + 1)) ∧ w' = w.alloc (.cells ((Lib.splitB sep 0 (Lib.countB s sep) s).map Value.string).toArray 9) := Any.strings_Split Tryd.lays146 (by kernel_rfl) s sep m w hs hm h1
def Tryd.lays264_ren : Go.Shelf.Ren := ⟨fun | 264 => 59 | n => n, fun | 53 => 89 | 46 => 79 | n => n, fun | n => n⟩
theorem Tryd.lays264 : Go.Proofs.Lays.n264 Tryd.prog Tryd.lays264_ren := {
  mixed := by kernel_rfl
  f264 := Tryd.func59.trans (congrArg some (by kernel_rfl))
  t46 := Tryd.underlying79
  a46 := Tryd.isAgg79
  z46 := Tryd.sizeOf79
  v46 := Tryd.zeroValue79
  t53 := Tryd.underlying89
  a53 := Tryd.isAgg89
  z53 := Tryd.sizeOf89
  v53 := Tryd.zeroValue89 }
open Go.RowKit Go.Lib in
theorem Tryd.bits_Mul64 (x y : Nat) (hx : x < 18446744073709551616) (hy : y < 18446744073709551616) (w : World) :
    Calls Tryd.prog 59 #[.int .u64 x, .int .u64 y] w fun e w' => e = .returned (.tuple #[.int .u64 ((x * y / 18446744073709551616 : Nat) : Int), .int .u64 ((x * y % 18446744073709551616 : Nat) : Int)]) ∧ w' = w := Any.bits_Mul64 Tryd.lays264 x y hx hy w
end Go.Proofs
namespace Go.Proofs.YtafndbmjohhhpaaDoor
open Go.RowKit

theorem mkS_extract (s : ByteArray) (m k : Nat) : mkS ((s.data.toList.take k).drop m) = s.extract m k := by
  apply ByteArray.ext
  apply Array.ext'
  simp [mkS, List.drop_take]
end Go.Proofs.YtafndbmjohhhpaaDoor
namespace Go.Proofs.YtafndbmjohhhpaaDoor
open Go.RowKit
open Go.Shelf

def bren : Go.Shelf.Ren := ⟨fun | 166 => 40 | 167 => 39 | 240 => 57 | 276 => 73 | n => n, fun | 0 => 0 | 3 => 3 | 4 => 4 | 5 => 5 | 9 => 9 | 20 => 20 | 37 => 53 | 70 => 71 | 72 => 73 | 75 => 75 | 80 => 35 | 164 => 107 | n => n, fun n => n⟩
theorem blays167 : Go.Proofs.Lays.n167 Tryd.prog bren := {
  mixed := by kernel_rfl
  f167 := Tryd.func39.trans (congrArg some (by kernel_rfl))
  f240 := Tryd.func57.trans (congrArg some (by kernel_rfl))
  f276 := Tryd.func73.trans (congrArg some (by kernel_rfl))
  t0 := Tryd.underlying0
  a0 := Tryd.isAgg0
  z0 := Tryd.sizeOf0
  v0 := Tryd.zeroValue0
  t4 := Tryd.underlying4
  a4 := Tryd.isAgg4
  z4 := Tryd.sizeOf4
  v4 := Tryd.zeroValue4
  t5 := Tryd.underlying5
  a5 := Tryd.isAgg5
  z5 := Tryd.sizeOf5
  v5 := Tryd.zeroValue5
  t9 := Tryd.underlying9
  a9 := Tryd.isAgg9
  z9 := Tryd.sizeOf9
  v9 := Tryd.zeroValue9
  t20 := Tryd.underlying20
  a20 := Tryd.isAgg20
  z20 := Tryd.sizeOf20
  v20 := Tryd.zeroValue20
  t37 := Tryd.underlying53
  a37 := Tryd.isAgg53
  z37 := Tryd.sizeOf53
  v37 := Tryd.zeroValue53
  t70 := Tryd.underlying71
  a70 := Tryd.isAgg71
  z70 := Tryd.sizeOf71
  v70 := Tryd.zeroValue71
  t72 := Tryd.underlying73
  a72 := Tryd.isAgg73
  z72 := Tryd.sizeOf73
  v72 := Tryd.zeroValue73
  t75 := Tryd.underlying75
  a75 := Tryd.isAgg75
  z75 := Tryd.sizeOf75
  v75 := Tryd.zeroValue75
  t164 := Tryd.underlying107
  a164 := Tryd.isAgg107
  z164 := Tryd.sizeOf107
  v164 := Tryd.zeroValue107 }
theorem blays166 : Go.Proofs.Lays.n166 Tryd.prog bren := {
  mixed := by kernel_rfl
  f166 := Tryd.func40.trans (congrArg some (by kernel_rfl))
  f240 := Tryd.func57.trans (congrArg some (by kernel_rfl))
  f276 := Tryd.func73.trans (congrArg some (by kernel_rfl))
  t0 := Tryd.underlying0
  a0 := Tryd.isAgg0
  z0 := Tryd.sizeOf0
  v0 := Tryd.zeroValue0
  t3 := Tryd.underlying3
  a3 := Tryd.isAgg3
  z3 := Tryd.sizeOf3
  v3 := Tryd.zeroValue3
  t4 := Tryd.underlying4
  a4 := Tryd.isAgg4
  z4 := Tryd.sizeOf4
  v4 := Tryd.zeroValue4
  t9 := Tryd.underlying9
  a9 := Tryd.isAgg9
  z9 := Tryd.sizeOf9
  v9 := Tryd.zeroValue9
  t20 := Tryd.underlying20
  a20 := Tryd.isAgg20
  z20 := Tryd.sizeOf20
  v20 := Tryd.zeroValue20
  t37 := Tryd.underlying53
  a37 := Tryd.isAgg53
  z37 := Tryd.sizeOf53
  v37 := Tryd.zeroValue53
  t70 := Tryd.underlying71
  a70 := Tryd.isAgg71
  z70 := Tryd.sizeOf71
  v70 := Tryd.zeroValue71
  t72 := Tryd.underlying73
  a72 := Tryd.isAgg73
  z72 := Tryd.sizeOf73
  v72 := Tryd.zeroValue73
  t75 := Tryd.underlying75
  a75 := Tryd.isAgg75
  z75 := Tryd.sizeOf75
  v75 := Tryd.zeroValue75
  t164 := Tryd.underlying107
  a164 := Tryd.isAgg107
  z164 := Tryd.sizeOf107
  v164 := Tryd.zeroValue107 }
theorem bextra : Go.Proofs.Builder.Extra Tryd.prog bren := {
  sizeBuilder := by kernel_rfl
  liesBuilder := by kernel_rfl
  t5 := Tryd.underlying5
  a5 := Tryd.isAgg5
  z5 := Tryd.sizeOf5
  v5 := Tryd.zeroValue5
  infoByte := by kernel_rfl
  cellsByte := by kernel_rfl
  sizeByte := by kernel_rfl
  neB5 := by decide }
theorem builder_WriteByte (B b : Nat) (bs : List Value) (c : Int) (w : World) (h : Lib.IsBuilder 73 5 B b bs w) (hlen : bs.length + 1 ≤ 140737488355328) (hBw : B ≤ w.heap.size) :
    Calls Tryd.prog 39 #[.pointer (some ⟨b, 0, none⟩), .int .u8 c] w fun e w' => e = .returned .nilIface ∧ (Lib.BuilderAt 73 5 B b (.pointer (some ⟨b, 0, none⟩)) (bs ++ [.int .u8 c]) w' ∧ Below B w w') :=
  Go.Proofs.Any.Builder_WriteByte blays167 bextra B b bs c w h hlen hBw
theorem builder_WriteString (B b : Nat) (bs : List Value) (s : ByteArray) (w : World) (h : Lib.IsBuilder 73 5 B b bs w) (hlen : bs.length + s.size ≤ 140737488355328) (hBw : B ≤ w.heap.size) :
    Calls Tryd.prog 40 #[.pointer (some ⟨b, 0, none⟩), .string s] w fun e w' => e = .returned (.tuple #[.int .i64 s.size, .nilIface]) ∧ (Lib.BuilderAt 73 5 B b (.pointer (some ⟨b, 0, none⟩)) (bs ++ Lib.strCells s) w' ∧ Below B w w') :=
  Go.Proofs.Any.Builder_WriteString blays166 bextra B b bs s w h hlen hBw
end Go.Proofs.YtafndbmjohhhpaaDoor
namespace Go.Proofs.YtafndbmjohhhpaaDoor
open Go.RowKit
set_option maxRecDepth 100000

theorem Keeps.ofNew {w w' : World} (h : Below w.heap.size w w') : Keeps (fun _ => False) w w' := (Keeps.of_below h).mono (fun _ hi h => absurd hi (Nat.not_lt_of_le h))
theorem Keeps.toNew {S : Nat → Prop} {w w' : World} (h : Keeps S w w') (hs : ∀ k, S k → w.heap.size ≤ k) : Below w.heap.size w w' := h.below (Nat.le_refl _) hs
theorem builderAt_keeps {T e : TypeId} {B b : Nat} {p : Value} {bs : List Value} {w w1 : World} (h : Lib.BuilderAt T e B b p bs w) (k : Keeps (fun _ => False) w w1) : Lib.BuilderAt T e B b p bs w1 := by
  obtain ⟨h1, v, hb, hr, hn⟩ := h
  exact ⟨h1, v, k.heap hb (fun h => h), ownsRow_move hr (fun j hj => k.block j (hr.lt j hj).2 (fun h => h)), hn⟩
theorem esc_length (c : UInt8) : (esc c).length ≤ 4 := by
  unfold esc
  split
  · simp
  · split
    · simp
    · split
      · simp
      · split
        · simp
        · split <;> simp
theorem flat_esc_length (l : List UInt8) : (l.flatMap esc).length ≤ 4 * l.length := by
  induction l with
  | nil => simp
  | cons c l ih =>
    have := esc_length c
    simp only [List.flatMap_cons, List.length_append, List.length_cons]
    omega
theorem flat_esc_take {l : List UInt8} {k : Nat} (h : k < l.length) : (l.take (k + 1)).flatMap esc = (l.take k).flatMap esc ++ esc l[k] := by
  rw [List.take_succ_eq_append_getElem h, List.flatMap_append]; simp
theorem mkS_size (l : List UInt8) : (mkS l).size = l.length := by show l.toArray.size = _; simp
theorem str_cells (l : List UInt8) : Lib.strCells (mkS l) = byteCells l := rfl
set_option maxHeartbeats 1000000 in
theorem str_Quote (s : ByteArray) (w : World) (hs : s.size ≤ 17592186044416) : Calls Tryd.prog 31 #[.string s] w fun e w' => e = .returned (.string (mkS (quoteL s.data.toList))) ∧ Keeps (fun _ => False) w w' := by
  have LA := hidden (list_len s)
  refine post_gen fun R hR => ?_
  go_enter Tryd.func31, Tryd.ntmps31
  go_wp2_with fail
  refine (builder_WriteByte w.heap.size w.heap.size [] 34 _ (Lib.fresh_isBuilder _ _ w) (by simp) (by simp)).mono ?_
  rintro e w1 ⟨rfl, hB1, hW1⟩
  have HB1 := hidden hB1
  have HW1 := hidden ((Below.refl w.heap.size w).alloc (Nat.le_refl _) (.cells #[.pointer none, .slice none 0 0] 73) |>.trans hW1)
  clear hB1 hW1
  go_wp2_with fail
  go_loopw [8] (fun i wr => ∃ k : Nat, k ≤ s.size ∧ i = .int .i64 k ∧ Lib.BuilderAt 73 5 w.heap.size w.heap.size (.pointer (some ⟨w.heap.size, 0, none⟩)) (byteCells (34 :: (s.data.toList.take k).flatMap esc)) wr ∧ Below w.heap.size w wr) (fun i _ => s.size - (intOf i).toNat)
  case atStart => exact ⟨0, Nat.zero_le _, rfl, HB1.out, HW1.out⟩
  case round =>
    clear HB1 HW1
    obtain ⟨k, hk, rfl, hB, hW⟩ := hrel
    have HB := hidden hB
    have HW := hidden hW
    have hz := hW.size
    clear hB hW
    have hf := flat_esc_length (s.data.toList.take k)
    rw [List.length_take, LA.out] at hf
    by_cases hlt : k < s.size
    · have HA := hidden (at_list s hlt)
      have HT := hidden (flat_esc_take (l := s.data.toList) (k := k) (by rw [LA.out]; exact hlt))
      have he := esc_length s[k]
      have HM := hidden (mkS_size (esc s[k]))
      go_wp2_with (first
        | (go_at_call 55; refine (str_Escape s[k] _).mono ?_; rintro e w2 ⟨rfl, hK2⟩; have HK2 := hidden hK2; have hz2 := hK2.size; clear hK2)
        | (go_at_call 40; refine (builder_WriteString w.heap.size w.heap.size _ (mkS (esc s[k])) _ (Or.inr (builderAt_keeps HB.out HK2.out)) (by rw [HM.out, byteCells_length, List.length_cons]; omega) (by omega)).mono ?_; rintro e w3 ⟨rfl, hB3, hW3⟩; have HB3 := hidden hB3; have HW3 := hidden hW3; clear hB3 hW3))
      go_roundw
      case rel =>
        refine ⟨k + 1, by omega, by go_num, ?_, ?_⟩
        · have := HB3.out
          rw [str_cells, ← byteCells_append, List.cons_append, ← HA.out, ← HT.out] at this
          exact this
        · exact (HW.out.trans ((Keeps.below HK2.out (by omega) (fun _ h => h.elim)))).trans HW3.out
      case measure => simp [intOf]; omega
    · obtain rfl : k = s.size := by omega
      have hl : s.data.toList.take s.size = s.data.toList := List.take_of_length_le (by rw [LA.out]; exact Nat.le_refl _)
      rw [hl] at HB hf
      clear hl
      go_wp2_with fail
      refine (builder_WriteByte w.heap.size w.heap.size _ 34 _ (Or.inr HB.out) (by rw [byteCells_length, List.length_cons]; omega) (by omega)).mono ?_
      rintro e w2 ⟨rfl, hB2, hW2⟩
      have e1 : byteCells (34 :: s.data.toList.flatMap esc) ++ [.int .u8 34] = byteCells (quoteL s.data.toList) := by
        simp [quoteL, byteCells]
      rw [e1] at hB2
      have HB2 := hidden hB2
      have HW2 := hidden (HW.out.trans hW2)
      have hz2 := HW2.out.size
      clear hB2 hW2 e1
      go_wp2_with fail
      refine (Tryd.Builder_String_any w.heap.size w.heap.size (quoteL s.data.toList) _ (Or.inr HB2.out) hz2).mono ?_
      rintro e w3 ⟨rfl, hW3⟩
      have HW3 := hidden (HW2.out.trans hW3)
      clear hW3
      go_wp2_with fail
      exact hR.out _ _ ⟨rfl, Keeps.ofNew HW3.out⟩

end Go.Proofs.YtafndbmjohhhpaaDoor
namespace Go.Proofs.YtafndbmjohhhpaaDoor
open Go.RowKit
set_option maxRecDepth 100000

def IsLex (w : World) (b : Nat) (s : ByteArray) (at' : Nat) (line : Bool) (L : Value) : Prop := w.heap[b]? = some (.cells #[.string s, .int .i64 at', .bool line, L] 59 (0, 0))
section
variable {w w1 : World} {b : Nat} {s : ByteArray} {at' : Nat} {line : Bool} {L : Value}
theorem IsLex.cells (h : IsLex w b s at' line L) : w.cell? ⟨b, 0, none⟩ = some (.string s) ∧ w.cell? ⟨b, 1, none⟩ = some (.int .i64 at') ∧ w.cell? ⟨b, 2, none⟩ = some (.bool line) ∧ w.cell? ⟨b, 3, none⟩ = some L ∧ w.frozen? ⟨b, 1, none⟩ = false ∧ w.frozen? ⟨b, 2, none⟩ = false :=
  ⟨blk_cell h 0, blk_cell h 1, blk_cell h 2, blk_cell h 3, blk_frozen h 1, blk_frozen h 2⟩
theorem IsLex.keeps {S : Nat → Prop} (h : IsLex w b s at' line L) (hk : Keeps S w w1) (hn : ¬ S b) : IsLex w1 b s at' line L := hk.heap h hn
theorem IsLex.setAt (h : IsLex w b s at' line L) (n : Nat) : IsLex (w.setCell ⟨b, 1, none⟩ (.int .i64 n)) b s n line L := blk_set h 1 _
theorem IsLex.setLine (h : IsLex w b s at' line L) (l : Bool) : IsLex (w.setCell ⟨b, 2, none⟩ (.bool l)) b s at' l L := blk_set h 2 _
theorem Keeps.lex {S : Nat → Prop} {a : World} (h : Keeps S a w) {b : Nat} (hb : S b) (i : Nat) (u : Value) : Keeps S a (w.setCell ⟨b, i, none⟩ u) := h.setCell (p := ⟨b, i, none⟩) (fun _ => hb) u
theorem IsLex.drewN (h : IsLex w b s at' line L) (n : Nat) : IsLex (w.drewN n) b s at' line L := h
end
def cellN (w : World) (b : Nat) : Nat := match w.cell? ⟨b, 1, none⟩ with | some (.int _ n) => n.toNat | _ => 0
theorem IsLex.cellN {w : World} {b : Nat} {s : ByteArray} {at' : Nat} {line : Bool} {L : Value} (h : IsLex w b s at' line L) : cellN w b = at' := by
  simp [Go.Proofs.YtafndbmjohhhpaaDoor.cellN, h.cells.2.1]

theorem lex_letter (c : UInt8) (w : World) : Calls Tryd.prog 49 #[.int .u8 c.toNat] w fun e w' => e = .returned (.bool (letterB c)) ∧ w = w' := by
  have B := letterB_is c
  have hB : ∀ b : Bool, (b = true ↔ ((97 ≤ c.toNat ∧ c.toNat ≤ 122) ∨ (65 ≤ c.toNat ∧ c.toNat ≤ 90) ∨ c.toNat = 95)) → b = letterB c := fun b h => by rw [Bool.eq_iff_iff, h, B]
  have HB := hidden hB
  clear B hB
  refine post_gen fun R hR => ?_
  go_enter Tryd.func49, Tryd.ntmps49
  go_wp2
  all_goals
    refine hR.out _ _ ⟨show Ending.returned (.bool _) = .returned (.bool _) from ret_bool (HB.out _ ?_), rfl⟩
    clear hR HB
    simp at *
    omega
theorem lex_digit (c : UInt8) (w : World) : Calls Tryd.prog 51 #[.int .u8 c.toNat] w fun e w' => e = .returned (.bool (digitB c)) ∧ w = w' := by
  have B := digitB_is c
  have hB : ∀ b : Bool, (b = true ↔ (48 ≤ c.toNat ∧ c.toNat ≤ 57)) → b = digitB c := fun b h => by rw [Bool.eq_iff_iff, h, B]
  have HB := hidden hB
  clear B hB
  refine post_gen fun R hR => ?_
  go_enter Tryd.func51, Tryd.ntmps51
  go_wp2
  all_goals
    refine hR.out _ _ ⟨show Ending.returned (.bool _) = .returned (.bool _) from ret_bool (HB.out _ ?_), rfl⟩
    clear hR HB
    simp at *
    omega
theorem lex_word (c : UInt8) (w : World) : Calls Tryd.prog 67 #[.int .u8 c.toNat] w fun e w' => e = .returned (.bool (innerB c)) ∧ w = w' := by
  have k1 := hidden (fun W => lex_letter c W)
  have k2 := hidden (fun W => lex_digit c W)
  have hi : innerB c = (letterB c || digitB c) := rfl
  rw [hi]
  clear hi
  generalize letterB c = x at *
  generalize digitB c = y at *
  refine post_gen fun R hR => ?_
  cases x
  · go_enter Tryd.func67, Tryd.ntmps67
    go_wp2_with (first | (go_at_call 49; refine (k1.out _).mono ?_; rintro e _ ⟨rfl, rfl⟩) | (go_at_call 51; refine (k2.out _).mono ?_; rintro e _ ⟨rfl, rfl⟩))
    exact hR.out _ _ ⟨rfl, rfl⟩
  · go_enter Tryd.func67, Tryd.ntmps67
    go_wp2_with (first | (go_at_call 49; refine (k1.out _).mono ?_; rintro e _ ⟨rfl, rfl⟩))
    exact hR.out _ _ ⟨rfl, rfl⟩
theorem wordL_at {l : List UInt8} {k : Nat} (h : k < l.length) : wordL (l.drop k) = if innerB l[k] = true then l[k] :: wordL (l.drop (k + 1)) else [] := by
  rw [List.drop_eq_getElem_cons h, wordL, List.takeWhile_cons]
  rfl
set_option maxHeartbeats 1000000 in
theorem lex_while (w : World) (b : Nat) (s : ByteArray) (a : Nat) (line : Bool) (L : Value) (hL : IsLex w b s a line L) (ha : a ≤ s.size) (hs : s.size ≤ 140737488351232) :
    Calls Tryd.prog 66 #[.pointer (some ⟨b, 0, none⟩), .func (.func 67) #[] #[]] w fun e w' => e = .returned (.string (mkS (wordL (s.data.toList.drop a)))) ∧ IsLex w' b s (a + (wordL (s.data.toList.drop a)).length) line L ∧ Keeps (fun k => k = b) w w' := by
  have LA := hidden (list_len s)
  have HL := hidden hL
  obtain ⟨q0, q1, q2, q3, z1, z2⟩ := hL.cells
  have hb := blk_lt hL
  clear hL
  generalize hW : wordL (s.data.toList.drop a) = W
  have HW := hidden hW
  clear hW
  refine post_gen fun R hR => ?_
  go_enter Tryd.func66, Tryd.ntmps66
  go_wp2_with fail
  clear q0 q1 q2 q3 z1 z2
  go_loopw [10] (fun _ wr => ∃ k : Nat, a ≤ k ∧ k ≤ s.size ∧ IsLex wr b s k line L ∧ Keeps (fun k => k = b) w wr ∧ Hid (W = (s.data.toList.drop a).take (k - a) ++ wordL (s.data.toList.drop k))) (fun _ wr => s.size - cellN wr b)
  case atStart => exact ⟨a, Nat.le_refl _, ha, HL.out, Keeps.refl _ _, hidden (by rw [Nat.sub_self, List.take_zero, HW.out]; rfl)⟩
  case round =>
    obtain ⟨k, hk0, hk, hI, hK, HN⟩ := hrel
    have HI := hidden hI
    have HK := hidden hK
    obtain ⟨q0, q1, q2, q3, z1, z2⟩ := hI.cells
    have hbr := blk_lt hI
    have hcn := hI.cellN
    clear hI hK
    by_cases hlt : k < s.size
    · have hd : decide ((k : Int) < s.size) = true := by simp; omega
      have HA := hidden (at_list s hlt)
      have HWA := hidden (wordL_at (l := s.data.toList) (k := k) (by rw [LA.out]; exact hlt))
      have kw := hidden (fun W => lex_word s[k] W)
      by_cases hi : innerB s[k] = true
      · rw [hi] at kw
        have HI2 := hidden hi
        clear hi
        go_wp2_with fail
        go_quiet ((go_at_call 67; exact Calls.quiet_of_same ((kw.out _).mono fun _ _ ⟨h1, h2⟩ => ⟨h1, h2.symm⟩)))
        go_wp2_with fail
        go_roundw
        case rel =>
          refine ⟨k + 1, by omega, hlt, ?_, ?_, hidden ?_⟩
          · exact (HI.out.drewN _).setAt (k + 1)
          · exact (HK.out.drewN _).lex rfl _ _
          · have h1 := HN.out
            rw [HWA.out, if_pos (by rw [HA.out]; exact HI2.out)] at h1
            rw [h1, show k + 1 - a = (k - a) + 1 by omega, List.take_succ_eq_append_getElem (by simp; omega)]
            simp [show a + (k - a) = k by omega]
        case measure =>
          rw [show cellN wr b = k from hcn, show ((k : Int) + 1) = ((k + 1 : Nat) : Int) by omega, IsLex.cellN ((HI.out.drewN _).setAt (k + 1))]
          omega
      · rw [Bool.not_eq_true] at hi
        rw [hi] at kw
        have HI2 := hidden hi
        clear hi
        go_wp2_with fail
        go_quiet ((go_at_call 67; exact Calls.quiet_of_same ((kw.out _).mono fun _ _ ⟨h1, h2⟩ => ⟨h1, h2.symm⟩)))
        go_wp2_with fail
        go_quiet (fail)
        go_wp2_with fail
        refine hR.out _ _ ⟨ret_str ?_, ?_, (HK.out.drewN _).drewN _⟩
        · have h1 := HN.out
          rw [HWA.out, if_neg (by rw [HA.out, HI2.out]; simp), List.append_nil] at h1
          rw [h1, ← mkS_extract, List.drop_take]
        · have h1 := HN.out
          rw [HWA.out, if_neg (by rw [HA.out, HI2.out]; simp), List.append_nil] at h1
          have h2 : W.length = k - a := by rw [h1]; simp; omega
          rw [h2, show a + (k - a) = k by omega]
          exact (HI.out.drewN _).drewN _
    · obtain rfl : k = s.size := by omega
      have hd : decide ((s.size : Int) < s.size) = false := by simp
      have h1 := HN.out
      rw [List.drop_eq_nil_of_le (show s.data.toList.length ≤ s.size by simp), show wordL [] = [] from rfl, List.append_nil] at h1
      have HN1 := hidden h1
      clear h1
      go_wp2_with fail
      go_quiet (fail)
      go_wp2_with fail
      go_quiet (fail)
      go_wp2_with fail
      refine hR.out _ _ ⟨ret_str ?_, ?_, (HK.out.drewN _).drewN _⟩
      · rw [HN1.out, ← mkS_extract, List.drop_take]
      · have h2 : W.length = s.size - a := by rw [HN1.out]; simp
        rw [h2, show a + (s.size - a) = s.size by omega]
        exact (HI.out.drewN _).drewN _
end Go.Proofs.YtafndbmjohhhpaaDoor
namespace Go.Proofs.YtafndbmjohhhpaaDoor
open Go.RowKit
set_option maxRecDepth 100000

theorem lineN_index (l : List UInt8) : (if Lib.indexByte l 10 < 0 then (l.length : Int) else Lib.indexByte l 10) = lineN l := by
  induction l with
  | nil => rfl
  | cons c l ih =>
    have hg := Lib.indexByte_ge l 10
    simp only [Lib.indexByte]
    by_cases hc : c = 10
    · subst hc; rfl
    · have e : lineN (c :: l) = lineN l + 1 := by simp [lineN, hc]
      rw [e]
      have h1 : (c == 10) = false := by simpa using hc
      simp only [h1, Bool.false_eq_true, if_false]
      by_cases hm : Lib.indexByte l 10 = -1
      · simp only [hm] at ih ⊢
        simp at ih ⊢
        omega
      · have h2 : (Lib.indexByte l 10 == -1) = false := by simpa using hm
        rw [if_neg (by omega)] at ih
        simp only [h2, Bool.false_eq_true, if_false]
        rw [if_neg (by omega), ih]
        omega
theorem contains_index (l : List UInt8) (c : UInt8) : decide (0 ≤ Lib.indexByte l c) = l.contains c := by
  induction l with
  | nil => rfl
  | cons d l ih =>
    have hg := Lib.indexByte_ge l c
    simp only [Lib.indexByte, List.contains_cons]
    by_cases hc : d = c
    · subst hc; simp
    · have h1 : (d == c) = false := by simpa using hc
      have h1' : (c == d) = false := by simpa using Ne.symm hc
      rw [h1', Bool.false_or, ← ih]
      simp only [h1, Bool.false_eq_true, if_false]
      by_cases hm : Lib.indexByte l c = -1
      · simp [hm]
      · have h2 : (Lib.indexByte l c == -1) = false := by simpa using hm
        simp only [h2, Bool.false_eq_true, if_false]
        rw [Bool.eq_iff_iff]
        simp
        omega
theorem index_room (l m : List UInt8) : Lib.index l m + m.length ≤ l.length ∨ Lib.index l m < 0 := by
  induction l with
  | nil =>
    simp only [Lib.index]
    cases m <;> simp
  | cons b l ih =>
    simp only [Lib.index]
    by_cases hp : m.isPrefixOf (b :: l) = true
    · rw [if_pos hp]
      exact .inl (by have := (List.isPrefixOf_iff_prefix.1 hp).length_le; omega)
    · rw [if_neg hp]
      by_cases hm : (Lib.index l m == -1) = true
      · rw [if_pos hm]; exact .inr (by omega)
      · rw [if_neg hm]
        have hg := Lib.index_ge l m
        rcases ih with h | h
        · left; simp; omega
        · have : Lib.index l m = -1 := by omega
          rw [this] at hm
          exact absurd rfl hm
def MaxL (w : World) (m : Int) : Prop := w.cell? ⟨0, 0, none⟩ = some (.int .i64 m)
theorem MaxL.keeps {w w1 : World} {m : Int} {S : Nat → Prop} (h : MaxL w m) (hk : Keeps S w w1) (hn : ¬ S 0) : MaxL w1 m := hk.cell h hn
theorem MaxL.drewN {w : World} {m : Int} (h : MaxL w m) (n : Nat) : MaxL (w.drewN n) m := h
theorem MaxL.ne {w : World} {m : Int} {b : Nat} {s : ByteArray} {a : Nat} {line : Bool} {L : Value} (h : MaxL w m) (hL : IsLex w b s a line L) : 0 ≠ b := fun e => by
  have h1 := hL.cells.1
  rw [← e] at h1
  have h2 : w.cell? ⟨0, 0, none⟩ = some (.int .i64 m) := h
  rw [h1] at h2
  cases h2
theorem take_list (t : ByteArray) (j : Nat) : (t.extract 0 j).data.toList = t.data.toList.take j := by
  rw [ByteArray.data_extract, Array.toList_extract, List.extract_eq_take_drop]
  simp
def gapAns (G : Nat × Bool × Bool) : Value := if G.2.2 = true then .tuple #[.int .i64 0, .bool true] else .tuple #[.int .i64 G.1, .bool false]
theorem pre_len {m l : List UInt8} (h : m.isPrefixOf l = true) : m.length ≤ l.length := (List.isPrefixOf_iff_prefix.1 h).length_le

theorem LexGo.go {w wr : World} {b k y : Nat} {s : ByteArray} {ln : Bool} {L : Value} {m : Int} {nq : Nat} {G : Nat × Bool × Bool} (hI : IsLex wr b s k ln L) (hK : Keeps (fun k => k = b) w wr) (hy : y ≤ s.size - k) (hm : m = (k : Int) + y) (hG : gup (k + y) ln (gap (s.data.toList.drop (k + y))) = G) (hk : k ≤ s.size := by omega) :
    ∃ (k' : Nat) (ln' : Bool), k' ≤ s.size ∧ IsLex ((wr.drewN nq).setCell ⟨b, 1, none⟩ (.int .i64 m)) b s k' ln' L ∧ Keeps (fun k => k = b) w ((wr.drewN nq).setCell ⟨b, 1, none⟩ (.int .i64 m)) ∧ Hid (gup k' ln' (gap (s.data.toList.drop k')) = G) := by
  refine ⟨k + y, ln, by omega, ?_, (hK.drewN _).lex rfl _ _, hidden hG⟩
  rw [hm]
  exact (hI.drewN nq).setAt (k + y)
theorem LexGo.less {wr : World} {b k y : Nat} {s : ByteArray} {ln : Bool} {L : Value} {m : Int} {nq : Nat} (hI : IsLex wr b s k ln L) (hcn : cellN wr b = k) (hy : y ≤ s.size - k) (hm : m = (k : Int) + y) (hp : 1 ≤ y) (hk : k < s.size) :
    s.size - cellN ((wr.drewN nq).setCell ⟨b, 1, none⟩ (.int .i64 m)) b < s.size - cellN wr b := by
  rw [hcn, hm, show ((k : Int) + y) = ((k + y : Nat) : Int) by omega, IsLex.cellN ((hI.drewN nq).setAt (k + y))]
  omega
set_option maxHeartbeats 4000000 in
theorem lex_gap (w : World) (b : Nat) (s : ByteArray) (a : Nat) (line : Bool) (L : Value) (m : Int) (hm : MaxL w m) (hL : IsLex w b s a line L) (ha : a ≤ s.size) (hs : s.size ≤ 4294967000) :
    Calls Tryd.prog 29 #[.pointer (some ⟨b, 0, none⟩)] w fun e w' => e = .returned (gapAns (gup a line (gap (s.data.toList.drop a)))) ∧ IsLex w' b s (gup a line (gap (s.data.toList.drop a))).1 (gup a line (gap (s.data.toList.drop a))).2.1 L ∧ Keeps (fun k => k = b) w w' := by
  have LA := hidden (list_len s)
  have HL := hidden hL
  have HM := hidden hm
  have HNE := hidden (hm.ne hL)
  obtain ⟨q0, q1, q2, q3, z1, z2⟩ := hL.cells
  have hb := blk_lt hL
  clear hL hm
  generalize hG : gup a line (gap (s.data.toList.drop a)) = G
  have HG := hidden hG
  clear hG
  refine post_gen fun R hR => ?_
  go_enter Tryd.func29, Tryd.ntmps29
  go_wp2_with fail
  go_step3
  go_wp2_with fail
  go_step3
  go_wp2_with fail
  clear q0 q1 q2 q3 z1 z2
  go_loopw [10] (fun _ wr => ∃ (k : Nat) (ln : Bool), k ≤ s.size ∧ IsLex wr b s k ln L ∧ Keeps (fun k => k = b) w wr ∧ Hid (gup k ln (gap (s.data.toList.drop k)) = G)) (fun _ wr => s.size - cellN wr b)
  case atStart => exact ⟨a, line, ha, HL.out, Keeps.refl _ _, HG⟩
  case round =>
    obtain ⟨k, ln, hk, hI, hK, HN⟩ := hrel
    have HI := hidden hI
    have HK := hidden hK
    have HMr := hidden (HM.out.keeps hK HNE.out)
    obtain ⟨q0, q1, q2, q3, z1, z2⟩ := hI.cells
    have hbr := blk_lt hI
    have hcn := hidden hI.cellN
    clear hI hK
    by_cases hlt : k < s.size
    rotate_left
    · obtain rfl : k = s.size := by omega
      have hn := HN.out
      rw [list_nil (Nat.lt_irrefl _), gap_nil] at hn
      go_wp2_with fail
      go_quiet (fail)
      go_wp2_with fail
      subst hn
      refine hR.out _ _ ⟨by simp [gapAns, gup], ?_, HK.out.drewN _⟩
      simpa [gup] using HI.out.drewN _
    have hd := hidden (drop_list s k)
    have hcs := hidden (list_cons hlt)
    have hc : s[k].toNat < 256 := s[k].toNat_lt
    have hsz : (s.extract k s.size).size = s.size - k := by simp
    have h0 : 0 < (s.extract k s.size).size := by rw [hsz]; omega
    have e0 : (((s.extract k s.size)[0]'h0).toNat : Int) = s[k].toNat := by simp [ByteArray.getElem_extract]
    by_cases h10 : s[k].toNat = 10
    · have i1 : ((s[k].toNat : Int) == 10) = true := by simp; omega
      have H10 := hidden h10
      clear h10
      go_wp2_with fail
      go_quiet (fail)
      go_wp2_with fail
      go_quiet (fail)
      go_wp2_with fail
      go_roundw
      case rel =>
        refine ⟨k + 1, true, hlt, ?_, ?_, hidden ?_⟩
        · exact ((HI.out.drewN _).setLine true).setAt (k + 1)
        · exact (((HK.out.drewN _).lex rfl _ _).lex rfl _ _)
        · rw [← HN.out, hcs.out, gap_nl H10.out, gup_gup, Bool.or_true]
      case measure =>
        rw [hcn.out, show ((k : Int) + 1) = ((k + 1 : Nat) : Int) by omega, IsLex.cellN (((HI.out.drewN _).setLine true).setAt (k + 1))]
        omega
    have i10 : ((s[k].toNat : Int) == 10) = false := by simp; omega
    have H10 := hidden h10
    clear h10
    by_cases hbl : s[k].toNat = 32 ∨ s[k].toNat = 9 ∨ s[k].toNat = 13
    · have HBL := hidden hbl
      rcases hbl with h | h | h
      all_goals
        first | (have j1 : ((s[k].toNat : Int) == 32) = true := by simp; omega) | (have j1 : ((s[k].toNat : Int) == 32) = false := by simp; omega)
        first | (have j2 : ((s[k].toNat : Int) == 9) = true := by simp; omega) | (have j2 : ((s[k].toNat : Int) == 9) = false := by simp; omega)
        first | (have j3 : ((s[k].toNat : Int) == 13) = true := by simp; omega) | (have j3 : ((s[k].toNat : Int) == 13) = false := by simp; omega)
        clear h
        go_wp2_with fail
        go_quiet (fail)
        go_wp2_with fail
        go_quiet (fail)
        go_wp2_with fail
        go_roundw
        case rel =>
          refine ⟨k + 1, ln, hlt, ?_, ?_, hidden ?_⟩
          · exact (HI.out.drewN _).setAt (k + 1)
          · exact ((HK.out.drewN _).lex rfl _ _)
          · rw [← HN.out, hcs.out, gap_blank HBL.out, gup_gup, Bool.or_false]
        case measure =>
          rw [hcn.out, show ((k : Int) + 1) = ((k + 1 : Nat) : Int) by omega, IsLex.cellN ((HI.out.drewN _).setAt (k + 1))]
          omega
    have j1 : ((s[k].toNat : Int) == 32) = false := by simp; omega
    have j2 : ((s[k].toNat : Int) == 9) = false := by simp; omega
    have j3 : ((s[k].toNat : Int) == 13) = false := by simp; omega
    have HBL := hidden hbl
    clear hbl
    have p1 := fun W => Tryd.strings_HasPrefix (s.extract k s.size) ⟨#[47, 47]⟩ W
    have p2 := fun W => Tryd.strings_HasPrefix (s.extract k s.size) ⟨#[47, 42]⟩ W
    rw [hd.out, show Lib.hasPrefix (s.data.toList.drop k) (⟨#[47, 47]⟩ : ByteArray).data.toList = [47, 47].isPrefixOf (s.data.toList.drop k) from rfl] at p1
    rw [hd.out, show Lib.hasPrefix (s.data.toList.drop k) (⟨#[47, 42]⟩ : ByteArray).data.toList = [47, 42].isPrefixOf (s.data.toList.drop k) from rfl] at p2
    generalize hx1 : [47, 47].isPrefixOf (s.data.toList.drop k) = x1 at p1
    generalize hx2 : [47, 42].isPrefixOf (s.data.toList.drop k) = x2 at p2
    have P1 := hidden p1
    have P2 := hidden p2
    have HX1 := hidden hx1
    have HX2 := hidden hx2
    clear p1 p2 hx1 hx2
    by_cases hline : s[k].toNat = 35 ∨ x1 = true
    · have HB := hidden hline
      have pI := fun W => Tryd.strings_IndexByte (s.extract k s.size) 10 W
      rw [hd.out, show (10 : Int).toNat.toUInt8 = 10 from rfl] at pI
      have hnl := lineN_index (s.data.toList.drop k)
      have hll := lineN_le (s.data.toList.drop k)
      have hlp := lineN_pos (c := s[k]) (r := s.data.toList.drop (k + 1)) H10.out
      have hge := Lib.indexByte_ge (s.data.toList.drop k) 10
      rw [← hcs.out] at hlp
      rw [List.length_drop, LA.out] at hnl hll
      have HG2 := hidden (gap_line H10.out HBL.out (r := s.data.toList.drop (k + 1)) (by rw [← hcs.out, HX1.out]; exact HB.out))
      have HG3 := HG2.out
      rw [← hcs.out, List.drop_drop] at HG3
      have HG4 := hidden HG3
      clear HG2 HG3
      generalize lineN (s.data.toList.drop k) = y at *
      generalize Lib.indexByte (s.data.toList.drop k) 10 = n at *
      have PI := hidden pI
      have HNL := hidden hnl
      clear pI hnl
      clear hge
      by_cases h35 : s[k].toNat = 35
      · have j4 : ((s[k].toNat : Int) == 35) = true := by simp; omega
        clear h35 hline
        by_cases hn : n < 0
        · obtain rfl : s.size - k = y := by have := HNL.out; rw [if_pos hn] at this; omega
          go_wp2_with fail
          go_quiet (fail)
          go_wp2_with fail
          go_quiet (fail)
          go_wp2_with (first | (go_at_call 48; refine (PI.out _).mono ?_; rintro e _ ⟨rfl, rfl⟩))
          go_roundw
          case rel => exact LexGo.go (y := s.size - k) HI.out HK.out hll (by omega) (by rw [← HN.out, HG4.out, gup_gup, Bool.or_false])
          case measure => exact LexGo.less HI.out hcn.out hll (by omega) hlp hlt
        · obtain ⟨n, rfl⟩ := Int.eq_ofNat_of_zero_le (show 0 ≤ n by omega)
          obtain rfl : n = y := by have := HNL.out; rw [if_neg hn] at this; omega
          go_wp2_with fail
          go_quiet (fail)
          go_wp2_with fail
          go_quiet (fail)
          go_wp2_with (first | (go_at_call 48; refine (PI.out _).mono ?_; rintro e _ ⟨rfl, rfl⟩))
          go_roundw
          case rel => exact LexGo.go (y := n) HI.out HK.out hll (by omega) (by rw [← HN.out, HG4.out, gup_gup, Bool.or_false])
          case measure => exact LexGo.less HI.out hcn.out hll (by omega) hlp hlt
      · have j4 : ((s[k].toNat : Int) == 35) = false := by simp; omega
        obtain rfl : x1 = true := hline.elim (fun h => absurd h h35) id
        clear h35 hline
        by_cases hn : n < 0
        · obtain rfl : s.size - k = y := by have := HNL.out; rw [if_pos hn] at this; omega
          go_wp2_with fail
          go_quiet (fail)
          go_wp2_with fail
          go_quiet (fail)
          go_wp2_with (first | (go_at_call 43; refine (P1.out _).mono ?_; rintro e _ ⟨rfl, rfl⟩) | (go_at_call 48; refine (PI.out _).mono ?_; rintro e _ ⟨rfl, rfl⟩))
          go_roundw
          case rel => exact LexGo.go (y := s.size - k) HI.out HK.out hll (by omega) (by rw [← HN.out, HG4.out, gup_gup, Bool.or_false])
          case measure => exact LexGo.less HI.out hcn.out hll (by omega) hlp hlt
        · obtain ⟨n, rfl⟩ := Int.eq_ofNat_of_zero_le (show 0 ≤ n by omega)
          obtain rfl : n = y := by have := HNL.out; rw [if_neg hn] at this; omega
          go_wp2_with fail
          go_quiet (fail)
          go_wp2_with fail
          go_quiet (fail)
          go_wp2_with (first | (go_at_call 43; refine (P1.out _).mono ?_; rintro e _ ⟨rfl, rfl⟩) | (go_at_call 48; refine (PI.out _).mono ?_; rintro e _ ⟨rfl, rfl⟩))
          go_roundw
          case rel => exact LexGo.go (y := n) HI.out HK.out hll (by omega) (by rw [← HN.out, HG4.out, gup_gup, Bool.or_false])
          case measure => exact LexGo.less HI.out hcn.out hll (by omega) hlp hlt
    obtain ⟨h35, rfl⟩ : ¬ s[k].toNat = 35 ∧ x1 = false := ⟨fun h => hline (.inl h), by cases x1 <;> simp_all⟩
    have j4 : ((s[k].toNat : Int) == 35) = false := by simp; omega
    have HB := hidden hline
    clear h35 hline
    cases x2
    · have HG2 := hidden (gap_stop H10.out HBL.out (r := s.data.toList.drop (k + 1)) (by rw [← hcs.out, HX1.out]; exact HB.out) (by rw [← hcs.out, HX2.out]; simp))
      go_wp2_with fail
      go_quiet (fail)
      go_wp2_with fail
      go_quiet (fail)
      go_wp2_with (first | (go_at_call 43; first | (refine (P1.out _).mono ?_; rintro e _ ⟨rfl, rfl⟩) | (refine (P2.out _).mono ?_; rintro e _ ⟨rfl, rfl⟩)))
      have hn := HN.out
      rw [hcs.out, HG2.out] at hn
      subst hn
      refine hR.out _ _ ⟨by simp [gapAns, gup], ?_, HK.out.drewN _⟩
      simpa [gup] using HI.out.drewN _
    have h2 : 2 ≤ s.size - k := by have := pre_len HX2.out; rw [List.length_drop, LA.out] at this; exact this
    have eI : ((s.extract k s.size).extract 2 (s.size - k)).data.toList = (s.data.toList.drop k).drop 2 := by
      have := drop_list (s.extract k s.size) 2
      rw [hsz, hd.out] at this
      exact this
    have pI := fun (W : World) (hW : MaxL W m) => Tryd.strings_Index ((s.extract k s.size).extract 2 (s.size - k)) ⟨#[42, 47]⟩ m W (by simp; omega) hW
    rw [eI, show (⟨#[42, 47]⟩ : ByteArray).data.toList = [42, 47] from rfl] at pI
    have hroom := index_room ((s.data.toList.drop k).drop 2) [42, 47]
    have hge := Lib.index_ge ((s.data.toList.drop k).drop 2) [42, 47]
    rw [List.length_drop, List.length_drop, LA.out] at hroom
    have gb := fun h => gap_bad H10.out HBL.out (r := s.data.toList.drop (k + 1)) (by rw [← hcs.out, HX1.out]; exact HB.out) (by rw [← hcs.out, HX2.out]) (by rw [← hcs.out]; exact h)
    have gn := fun h j hj => gap_note H10.out HBL.out (r := s.data.toList.drop (k + 1)) (by rw [← hcs.out, HX1.out]; exact HB.out) (by rw [← hcs.out, HX2.out]) (by rw [← hcs.out]; exact h) (k := j) (by rw [← hcs.out]; exact hj)
    rw [← hcs.out] at gb
    have GB := hidden gb
    have GN := hidden gn
    clear gb gn eI
    generalize Lib.index ((s.data.toList.drop k).drop 2) [42, 47] = n at *
    have PI := hidden pI
    clear pI
    by_cases hn : n < 0
    · clear hroom
      go_wp2_with fail
      go_quiet (fail)
      go_wp2_with fail
      go_quiet (fail)
      go_wp2_with (first | (go_at_call 43; first | (refine (P1.out _).mono ?_; rintro e _ ⟨rfl, rfl⟩) | (refine (P2.out _).mono ?_; rintro e _ ⟨rfl, rfl⟩)) | (go_at_call 46; refine (PI.out _ (HMr.out.drewN _)).mono ?_; rintro e _ ⟨rfl, rfl⟩))
      have h := HN.out
      rw [GB.out hn] at h
      subst h
      refine hR.out _ _ ⟨?_, ?_, HK.out.drewN _⟩
      · simp [gapAns, gup]
      · simpa [gup] using HI.out.drewN _
    obtain ⟨n, rfl⟩ := Int.eq_ofNat_of_zero_le (show 0 ≤ n by omega)
    have h4 : n + 4 ≤ s.size - k := by simp at hroom; omega
    have GN2 := hidden (GN.out hn (n + 4) (by omega))
    have h := GN2.out
    rw [← hcs.out, List.drop_drop] at h
    have GN3 := hidden h
    clear GN2 GN GB h hroom hge
    have pC := fun W : World => Tryd.strings_Contains_one ((s.extract k s.size).extract 0 (n + 4)) 10 W
    rw [show ((s.extract k s.size).extract 0 (n + 4)).data.toList = (s.data.toList.drop k).take (n + 4) by rw [take_list, hd.out], contains_index] at pC
    generalize ((s.data.toList.drop k).take (n + 4)).contains 10 = x at *
    have PC := hidden pC
    clear pC
    cases ln
    · go_wp2_with fail
      go_quiet (fail)
      go_wp2_with fail
      go_quiet (fail)
      go_wp2_with (first | (go_at_call 43; first | (refine (P1.out _).mono ?_; rintro e _ ⟨rfl, rfl⟩) | (refine (P2.out _).mono ?_; rintro e _ ⟨rfl, rfl⟩)) | (go_at_call 46; refine (PI.out _ (HMr.out.drewN _)).mono ?_; rintro e _ ⟨rfl, rfl⟩) | (go_at_call 27; refine (PC.out _).mono ?_; rintro e _ ⟨rfl, rfl⟩))
      go_roundw
      case rel =>
        refine ⟨k + (n + 4), x, by omega, ?_, ((HK.out.drewN _).lex rfl _ _).lex rfl _ _, hidden (by rw [← HN.out, GN3.out, gup_gup, Bool.false_or])⟩
        rw [show ((k : Int) + (n + 4)) = ((k + (n + 4) : Nat) : Int) by omega]
        exact ((HI.out.drewN _).setLine x).setAt (k + (n + 4))
      case measure =>
        rw [hcn.out, show ((k : Int) + (n + 4)) = ((k + (n + 4) : Nat) : Int) by omega, IsLex.cellN (((HI.out.drewN _).setLine x).setAt (k + (n + 4)))]
        omega
    · go_wp2_with fail
      go_quiet (fail)
      go_wp2_with fail
      go_quiet (fail)
      go_wp2_with (first | (go_at_call 43; first | (refine (P1.out _).mono ?_; rintro e _ ⟨rfl, rfl⟩) | (refine (P2.out _).mono ?_; rintro e _ ⟨rfl, rfl⟩)) | (go_at_call 46; refine (PI.out _ (HMr.out.drewN _)).mono ?_; rintro e _ ⟨rfl, rfl⟩) | (go_at_call 27; refine (PC.out _).mono ?_; rintro e _ ⟨rfl, rfl⟩))
      go_roundw
      case rel =>
        refine ⟨k + (n + 4), true, by omega, ?_, ((HK.out.drewN _).lex rfl _ _).lex rfl _ _, hidden (by rw [← HN.out, GN3.out, gup_gup, Bool.true_or])⟩
        rw [show ((k : Int) + (n + 4)) = ((k + (n + 4) : Nat) : Int) by omega]
        exact ((HI.out.drewN _).setLine true).setAt (k + (n + 4))
      case measure =>
        rw [hcn.out, show ((k : Int) + (n + 4)) = ((k + (n + 4) : Nat) : Int) by omega, IsLex.cellN (((HI.out.drewN _).setLine true).setAt (k + (n + 4)))]
        omega
end Go.Proofs.YtafndbmjohhhpaaDoor
namespace Go.Proofs.YtafndbmjohhhpaaDoor
open Go.RowKit
set_option maxRecDepth 100000

def ndL : List UInt8 := [48, 49, 50, 51, 52, 53, 54, 55, 56, 57, 97, 98, 99, 100, 101, 102, 103, 104, 105, 106, 107, 108, 109, 110, 111, 112, 113, 114, 115, 116, 117, 118, 119, 120, 121, 122]
def ndI (c : UInt8) : Int := Lib.indexByte ndL (if 65 ≤ c.toNat ∧ c.toNat ≤ 90 then UInt8.ofNat (c.toNat + 32) else c)
theorem ndI_all : ∀ n : Fin 256, (ndI (UInt8.ofNat n.val) < 0 → dig (UInt8.ofNat n.val) = 16) ∧ (0 ≤ ndI (UInt8.ofNat n.val) → ndI (UInt8.ofNat n.val) < 16 → ndI (UInt8.ofNat n.val) = dig (UInt8.ofNat n.val)) ∧ (16 ≤ ndI (UInt8.ofNat n.val) → dig (UInt8.ofNat n.val) = 16) ∧ ndI (UInt8.ofNat n.val) < 36 ∧ -1 ≤ ndI (UInt8.ofNat n.val) := by decide +kernel
theorem ndI_is (c : UInt8) : (ndI c < 0 → dig c = 16) ∧ (0 ≤ ndI c → ndI c < 16 → ndI c = dig c) ∧ (16 ≤ ndI c → dig c = 16) ∧ ndI c < 36 ∧ -1 ≤ ndI c := by
  have := ndI_all ⟨c.toNat, c.toNat_lt⟩
  simpa using this
theorem num_digit (c : UInt8) (w : World) : Calls Tryd.prog 87 #[.int .u8 c.toNat] w fun e w' => e = .returned (.int .i64 (ndI c)) ∧ w = w' := by
  have hc : c.toNat < 256 := c.toNat_lt
  have k := fun W x => Tryd.strings_IndexByte ⟨#[48, 49, 50, 51, 52, 53, 54, 55, 56, 57, 97, 98, 99, 100, 101, 102, 103, 104, 105, 106, 107, 108, 109, 110, 111, 112, 113, 114, 115, 116, 117, 118, 119, 120, 121, 122]⟩ x W
  have K := hidden k
  clear k
  refine post_gen fun R hR => ?_
  by_cases h : 65 ≤ c.toNat ∧ c.toNat ≤ 90
  · obtain ⟨h1, h2⟩ := h
    have i1 : (65 : Int) ≤ c.toNat := by omega
    have i2 : (c.toNat : Int) ≤ 90 := by omega
    go_enter Tryd.func87, Tryd.ntmps87
    go_wp2_with (first | (go_at_call 48; refine (K.out _ _).mono ?_; rintro e _ ⟨rfl, rfl⟩))
    refine hR.out _ _ ⟨show Ending.returned (.int .i64 _) = .returned (.int .i64 _) from ret_int ?_, rfl⟩
    rw [ndI, if_pos ⟨h1, h2⟩]
    congr 1
  · have i1 : (65 : Int) ≤ c.toNat → ¬ (c.toNat : Int) ≤ 90 := by omega
    by_cases h3 : 65 ≤ c.toNat
    · have i2 : (65 : Int) ≤ c.toNat := by omega
      have i3 : ¬ (c.toNat : Int) ≤ 90 := by omega
      clear i1
      go_enter Tryd.func87, Tryd.ntmps87
      go_wp2_with (first | (go_at_call 48; refine (K.out _ _).mono ?_; rintro e _ ⟨rfl, rfl⟩))
      refine hR.out _ _ ⟨show Ending.returned (.int .i64 _) = .returned (.int .i64 _) from ret_int ?_, rfl⟩
      rw [ndI, if_neg h]
      congr 1
    · clear i1
      go_enter Tryd.func87, Tryd.ntmps87
      go_wp2_with (first | (go_at_call 48; refine (K.out _ _).mono ?_; rintro e _ ⟨rfl, rfl⟩))
      refine hR.out _ _ ⟨show Ending.returned (.int .i64 _) = .returned (.int .i64 _) from ret_int ?_, rfl⟩
      rw [ndI, if_neg h]
      congr 1
theorem add64 (x y : Int) (hx : 0 ≤ x) (hy : 0 ≤ y) (w : World) : (callFunc 88 #[.int .u64 x, .int .u64 y, .int .u64 0]).run Tryd.prog w = .ok (.value (.tuple #[.int .u64 ((x + y) % 18446744073709551616), .int .u64 ((x + y) / 18446744073709551616)])) w := by
  rw [run_callFunc_extern Tryd.func88 (by kernel_rfl) (by kernel_rfl) (by kernel_rfl) (e := add64Entry) (by kernel_rfl), run_add64 x y 0 hx hy (by omega) (by omega)]
  simp only [Result.andThen, Int.add_zero]
theorem digitsV_snoc (b : Nat) (l : List UInt8) (c : UInt8) : digitsV b (l ++ [c]) = digitsV b l * b + dig c := by simp [digitsV, List.foldl_append]
def parseAns (b : Nat) (d : List UInt8) : Value :=
  if d = [] ∨ d.any (fun c => decide (b ≤ dig c)) = true then .tuple #[.int .i64 0, .int .i64 5]
  else if 9223372036854775808 ≤ digitsV b d then .tuple #[.int .i64 0, .int .i64 11] else .tuple #[.int .i64 (digitsV b d : Nat), .int .i64 0]
theorem u64_nat {n : Int} (h0 : 0 ≤ n) (h : n < 18446744073709551616) : IntKind.u64.wrap n = n := IntWalk.u64_in _ (by omega)
theorem over_step (v b d : Nat) (hb : 1 ≤ b) : decide (18446744073709551616 ≤ v * b + d) = (decide (18446744073709551616 ≤ v) || decide (0 < v % 18446744073709551616 * b / 18446744073709551616) || decide (0 < (v % 18446744073709551616 * b % 18446744073709551616 + d) / 18446744073709551616)) := by
  rw [Bool.eq_iff_iff]
  simp only [decide_eq_true_eq, Bool.or_eq_true]
  by_cases h : 18446744073709551616 ≤ v
  · have : v * 1 ≤ v * b := Nat.mul_le_mul_left _ hb
    exact ⟨fun _ => .inl (.inl h), fun _ => by omega⟩
  · rw [Nat.mod_eq_of_lt (show v < 18446744073709551616 by omega)]
    generalize v * b = x
    constructor
    · intro h1
      by_cases h2 : 18446744073709551616 ≤ x
      · exact .inl (.inr (by omega))
      · exact .inr (by omega)
    · rintro ((h1 | h1) | h1) <;> omega
theorem mod_step (v b d : Nat) : (((v % 18446744073709551616 : Nat) : Int) * b + d) % 18446744073709551616 = (((v * b + d) % 18446744073709551616 : Nat) : Int) := by
  rw [Nat.add_mod, Nat.mul_mod, ← Nat.add_mod_mod, Nat.mod_mod]
  have e : ((v % 18446744073709551616 : Nat) : Int) * b + d = ((v % 18446744073709551616 * b + d : Nat) : Int) := by simp
  rw [e]
  have e2 : (v % 18446744073709551616 * b + d) % 18446744073709551616 = ((v % 18446744073709551616 * (b % 18446744073709551616) % 18446744073709551616 + d) % 18446744073709551616) := by
    rw [Nat.add_mod, Nat.mul_mod, Nat.mod_mod]
    conv => rhs; rw [Nat.add_mod]
    simp
  omega
theorem over_stepI (v b d : Nat) (hb : 1 ≤ b) : decide (18446744073709551616 ≤ v * b + d) = (decide (18446744073709551616 ≤ v) || decide ((0 : Int) < ((v % 18446744073709551616 : Nat) : Int) * b / 18446744073709551616) || decide ((0 : Int) < (((v % 18446744073709551616 : Nat) : Int) * b % 18446744073709551616 + d) / 18446744073709551616)) := by
  rw [over_step v b d hb]
  have e1 : (((v % 18446744073709551616 : Nat) : Int) * b / 18446744073709551616) = ((v % 18446744073709551616 * b / 18446744073709551616 : Nat) : Int) := by generalize v % 18446744073709551616 = x; simp
  have e2 : ((((v % 18446744073709551616 : Nat) : Int) * b % 18446744073709551616 + d) / 18446744073709551616) = (((v % 18446744073709551616 * b % 18446744073709551616 + d) / 18446744073709551616 : Nat) : Int) := by generalize v % 18446744073709551616 = x; simp
  rw [e1, e2]
  congr 1
  · congr 1
    rw [Bool.eq_iff_iff]
    simp only [decide_eq_true_eq]
    omega
  · rw [Bool.eq_iff_iff]
    simp only [decide_eq_true_eq]
    omega
set_option maxHeartbeats 2000000 in
theorem num_Parse (s : ByteArray) (b : Nat) (w : World) (hb : b = 10 ∨ b = 16) (hm : [45].isPrefixOf s.data.toList = false) (hs : s.size ≤ 140737488351232) :
    Calls Tryd.prog 70 #[.string s, .int .i64 b] w fun e w' => e = .returned (parseAns b s.data.toList) ∧ w = w' := by
  have LA := hidden (list_len s)
  have hcp := fun W => Tryd.strings_CutPrefix s ⟨#[45]⟩ W
  rw [show Lib.hasPrefix s.data.toList (⟨#[45]⟩ : ByteArray).data.toList = false from hm, show Lib.trimPrefix s.data.toList (⟨#[45]⟩ : ByteArray).data.toList = s.data.toList by rw [Lib.trimPrefix, if_neg (by rw [show Lib.hasPrefix s.data.toList (⟨#[45]⟩ : ByteArray).data.toList = false from hm]; simp)], show (⟨s.data.toList.toArray⟩ : ByteArray) = s from mkS_list s] at hcp
  have CP := hidden hcp
  have kd := hidden (fun (c : UInt8) W => num_digit c W)
  have hb2 : 2 ≤ b := by omega
  have hb3 : b ≤ 36 := by omega
  have hb16 : b ≤ 16 := by omega
  have km := hidden (fun (x : Nat) hx W => Tryd.bits_Mul64 x b hx (by omega) W)
  have hwb := u64_nat (n := (b : Int)) (by omega) (by omega)
  clear hcp hm hb
  refine post_gen fun R hR => ?_
  by_cases h0 : 0 < s.size
  rotate_left
  · obtain rfl := str_none h0
    go_enter Tryd.func70, Tryd.ntmps70
    go_wp2_with (first | (go_at_call 68; refine (CP.out _).mono ?_; rintro e _ ⟨rfl, rfl⟩))
    exact hR.out _ _ ⟨rfl, rfl⟩
  have hne := str_some h0
  have HE := hidden (show ¬ s.data.toList = [] from fun e => by have := LA.out; rw [e] at this; simp at this; omega)
  go_enter Tryd.func70, Tryd.ntmps70
  go_wp2_with (first | (go_at_call 68; refine (CP.out _).mono ?_; rintro e _ ⟨rfl, rfl⟩))
  go_loop [8, 9, 31] (fun n o i => ∃ k : Nat, k ≤ s.size ∧ i = .int .i64 k ∧ n = .int .u64 ((digitsV b (s.data.toList.take k) % 18446744073709551616 : Nat) : Int) ∧ o = .bool (decide (18446744073709551616 ≤ digitsV b (s.data.toList.take k))) ∧ Hid ((s.data.toList.take k).any (fun c => decide (b ≤ dig c)) = false)) (fun _ _ i => s.size - (intOf i).toNat)
  case atStart => exact ⟨0, Nat.zero_le _, rfl, by simp [digitsV], by simp [digitsV], hidden (by simp)⟩
  case round =>
    obtain ⟨k, hk, rfl, rfl, rfl, HA⟩ := hrel
    by_cases hlt : k < s.size
    · have HG := hidden (at_list s hlt)
      have HK := hidden (show k < s.data.toList.length by rw [LA.out]; exact hlt)
      have HS := hidden (List.take_succ_eq_append_getElem HK.out)
      have hnd := ndI_is (s[k]'hlt)
      have HV := hidden (show digitsV b (s.data.toList.take (k + 1)) = digitsV b (s.data.toList.take k) * b + dig (s[k]'hlt) by rw [HS.out, digitsV_snoc, HG.out])
      by_cases hd : dig (s[k]'hlt) < b
      · have hi : ndI (s[k]'hlt) = dig (s[k]'hlt) := hnd.2.1 (by rcases Int.lt_or_le (ndI (s[k]'hlt)) 0 with h | h; have := hnd.1 h; omega; exact h) (by rcases Int.lt_or_le (ndI (s[k]'hlt)) 16 with h | h; exact h; have := hnd.2.2.1 h; omega)
        have kd1 := hidden (fun W => kd.out (s[k]'hlt) W)
        rw [hi] at kd1
        have HA2 := hidden (show (s.data.toList.take (k + 1)).any (fun c => decide (b ≤ dig c)) = false by rw [HS.out, List.any_append, HA.out, HG.out]; simp; omega)
        clear hnd hi
        generalize dig (s[k]'hlt) = d at *
        generalize hv : digitsV b (s.data.toList.take k) = v at *
        have hn0 : v % 18446744073709551616 < 18446744073709551616 := Nat.mod_lt _ (by decide)
        have km1 := hidden (fun W => km.out (v % 18446744073709551616) hn0 W)
        have hwd := u64_nat (n := (d : Int)) (by omega) (by omega)
        have ka := fun (n : Nat) W => add64 ((n : Int) * b % 18446744073709551616) d (Int.emod_nonneg _ (by decide)) (by omega) W
        have O1 := hidden (over_stepI v b d (by omega))
        have N1 := hidden (mod_step v b d)
        generalize v % 18446744073709551616 = n at *
        generalize decide (18446744073709551616 ≤ v) = o at *
        have h9 : ¬ (d : Int) < 0 := by omega
        have h8 : ¬ (b : Int) ≤ d := by omega
        clear hd
        cases o
        · by_cases hh : (0 : Int) < (n : Int) * b / 18446744073709551616
          · have HH := hidden (decide_eq_true hh)
            go_wp2_with (first | (go_at_call 87; refine (kd1.out _).mono ?_; rintro e _ ⟨rfl, rfl⟩) | (go_at_call 59; refine (km1.out _).mono ?_; rintro e _ ⟨rfl, rfl⟩) | simp only [ka])
            go_round
            case rel => exact ⟨k + 1, hlt, by go_num, by rw [HV.out, ← N1.out], by rw [HV.out, O1.out]; rw [HH.out]; rfl, HA2⟩
            case measure => simp [intOf]; omega
          · have HH := hidden (decide_eq_false hh)
            go_wp2_with (first | (go_at_call 87; refine (kd1.out _).mono ?_; rintro e _ ⟨rfl, rfl⟩) | (go_at_call 59; refine (km1.out _).mono ?_; rintro e _ ⟨rfl, rfl⟩) | simp only [ka])
            go_round
            case rel => exact ⟨k + 1, hlt, by go_num, by rw [HV.out, ← N1.out], by rw [HV.out, O1.out]; rw [HH.out]; rfl, HA2⟩
            case measure => simp [intOf]; omega
        · go_wp2_with (first | (go_at_call 87; refine (kd1.out _).mono ?_; rintro e _ ⟨rfl, rfl⟩) | (go_at_call 59; refine (km1.out _).mono ?_; rintro e _ ⟨rfl, rfl⟩) | simp only [ka])
          go_round
          case rel => exact ⟨k + 1, hlt, by go_num, by rw [HV.out, ← N1.out], by rw [HV.out, O1.out]; rfl, HA2⟩
          case measure => simp [intOf]; omega
      · have hbad : ndI (s[k]'hlt) < 0 ∨ (b : Int) ≤ ndI (s[k]'hlt) := by
          rcases Int.lt_or_le (ndI (s[k]'hlt)) 0 with h | h
          · exact .inl h
          rcases Int.lt_or_le (ndI (s[k]'hlt)) 16 with h1 | h1
          · have := hnd.2.1 h h1; omega
          · omega
        have HANY := hidden (show s.data.toList.any (fun c => decide (b ≤ dig c)) = true by
          rw [List.any_eq_true]
          exact ⟨(s[k]'hlt), by rw [← HG.out]; exact List.getElem_mem _, by simp; omega⟩)
        have kd1 := hidden (fun W => kd.out (s[k]'hlt) W)
        clear hnd
        generalize ndI (s[k]'hlt) = d at *
        rcases hbad with h | h
        · go_wp2_with (first | (go_at_call 87; refine (kd1.out _).mono ?_; rintro e _ ⟨rfl, rfl⟩))
          refine hR.out _ _ ⟨show Ending.returned (.tuple #[.int .i64 0, .int .i64 5]) = _ from ?_, rfl⟩
          rw [parseAns, if_pos (.inr HANY.out)]
        · have h9 : ¬ d < 0 := by omega
          go_wp2_with (first | (go_at_call 87; refine (kd1.out _).mono ?_; rintro e _ ⟨rfl, rfl⟩))
          refine hR.out _ _ ⟨show Ending.returned (.tuple #[.int .i64 0, .int .i64 5]) = _ from ?_, rfl⟩
          rw [parseAns, if_pos (.inr HANY.out)]
    · obtain rfl : k = s.size := by omega
      have hl : s.data.toList.take s.size = s.data.toList := List.take_of_length_le (by rw [LA.out]; exact Nat.le_refl _)
      rw [hl] at HA ⊢
      clear hl
      have HNO := hidden (show ¬ (s.data.toList = [] ∨ s.data.toList.any (fun c => decide (b ≤ dig c)) = true) from fun h => h.elim HE.out (fun h => by rw [HA.out] at h; cases h))
      have HP := hidden (show parseAns b s.data.toList = if 9223372036854775808 ≤ digitsV b s.data.toList then .tuple #[.int .i64 0, .int .i64 11] else .tuple #[.int .i64 (digitsV b s.data.toList : Nat), .int .i64 0] by rw [parseAns, if_neg HNO.out])
      clear HNO HE HA
      generalize digitsV b s.data.toList = v at *
      by_cases h1 : 18446744073709551616 ≤ v
      · have hP := HP.out
        rw [if_pos (by omega)] at hP
        have HP2 := hidden hP
        have hdt : decide (18446744073709551616 ≤ v) = true := by simpa using h1
        clear hP
        rw [hdt]
        clear hdt
        go_wp2_with fail
        refine hR.out _ _ ⟨show Ending.returned (.tuple #[.int .i64 0, .int .i64 11]) = _ from ?_, rfl⟩
        rw [HP2.out]
      · have hdt : decide (18446744073709551616 ≤ v) = false := by simpa using h1
        rw [hdt, Nat.mod_eq_of_lt (by omega)]
        clear hdt
        by_cases h2 : 9223372036854775808 ≤ v
        · have hP := HP.out
          rw [if_pos h2] at hP
          have HP2 := hidden hP
          clear hP
          go_wp2_with fail
          refine hR.out _ _ ⟨show Ending.returned (.tuple #[.int .i64 0, .int .i64 11]) = _ from ?_, rfl⟩
          rw [HP2.out]
        · have hP := HP.out
          rw [if_neg h2] at hP
          have HP2 := hidden hP
          clear hP
          have hwv : IntKind.i64.wrap (v : Int) = v := IntWalk.i64_in _ (by omega)
          go_wp2_with fail
          refine hR.out _ _ ⟨show Ending.returned (.tuple #[.int .i64 (v : Int), .int .i64 0]) = _ from ?_, rfl⟩
          rw [HP2.out]
end Go.Proofs.YtafndbmjohhhpaaDoor
namespace Go.Proofs.YtafndbmjohhhpaaDoor
set_option maxRecDepth 100000

theorem idx_iff (s sub : List UInt8) : 0 ≤ Lib.index s sub ↔ ∃ a b, s = a ++ (sub ++ b) := by
  induction s with
  | nil =>
    simp only [Lib.index]
    cases sub with
    | nil => simp
    | cons c t => simp
  | cons c l ih =>
    have hg := Lib.index_ge l sub
    simp only [Lib.index]
    by_cases hp : sub.isPrefixOf (c :: l) = true
    · rw [if_pos hp]
      obtain ⟨b, hb⟩ := List.isPrefixOf_iff_prefix.1 hp
      exact ⟨fun _ => ⟨[], b, by simp [hb]⟩, fun _ => Int.le_refl _⟩
    · rw [if_neg hp]
      have h1 : (∃ a b, c :: l = a ++ (sub ++ b)) ↔ ∃ a b, l = a ++ (sub ++ b) := by
        constructor
        · rintro ⟨a, b, h⟩
          cases a with
          | nil => exact absurd (List.isPrefixOf_iff_prefix.2 ⟨b, by simpa using h.symm⟩) hp
          | cons x a => simp at h; exact ⟨a, b, h.2⟩
        · rintro ⟨a, b, h⟩
          exact ⟨c :: a, b, by simp [h]⟩
      rw [h1, ← ih]
      by_cases hm : Lib.index l sub = -1
      · rw [hm]; decide
      · have h2 : (Lib.index l sub == -1) = false := by simpa using hm
        simp only [h2, Bool.false_eq_true, if_false]
        omega
def blanked : List (List UInt8) → List UInt8
  | [] => [32]
  | w :: ws => 32 :: (w ++ blanked ws)
theorem blanked_head (ws : List (List UInt8)) : ∃ r, blanked ws = 32 :: r := by cases ws <;> simp [blanked]
theorem split_blank {l w : List UInt8} {a b : List UInt8} (hl : (32 : UInt8) ∉ l) (hw : (32 : UInt8) ∉ w) (h : l ++ 32 :: a = w ++ 32 :: b) : l = w := by
  rcases List.append_eq_append_iff.1 h with ⟨c, h1, h2⟩ | ⟨c, h1, h2⟩
  · cases c with
    | nil => simpa using h1.symm
    | cons x c => simp at h2; rw [← h2.1] at h1; exact absurd (by rw [h1]; simp) hw
  · cases c with
    | nil => simpa using h1
    | cons x c => simp at h2; rw [← h2.1] at h1; exact absurd (by rw [h1]; simp) hl
theorem among_blanked {l : List UInt8} (hl : (32 : UInt8) ∉ l) : ∀ ws : List (List UInt8), (∀ w ∈ ws, (32 : UInt8) ∉ w) → ((∃ a b, blanked ws = a ++ ((32 :: l ++ [32]) ++ b)) ↔ l ∈ ws) := by
  intro ws
  induction ws with
  | nil =>
    intro _
    constructor
    · rintro ⟨a, b, h⟩
      have := congrArg List.length h
      simp [blanked] at this
      omega
    · intro h; cases h
  | cons w ws ih =>
    intro hws
    have hw : (32 : UInt8) ∉ w := hws w (List.mem_cons_self ..)
    have ih := ih (fun x hx => hws x (List.mem_cons_of_mem _ hx))
    obtain ⟨r, hr⟩ := blanked_head ws
    constructor
    · rintro ⟨a, b, h⟩
      cases a with
      | nil =>
        simp only [blanked, List.nil_append, List.cons_append, List.append_assoc, List.cons.injEq, true_and] at h
        rw [hr] at h
        exact List.mem_cons.2 (.inl (split_blank hl hw h.symm))
      | cons x a =>
        simp only [blanked, List.cons_append, List.cons.injEq] at h
        rcases List.append_eq_append_iff.1 h.2 with ⟨c, h1, h2⟩ | ⟨c, h1, h2⟩
        · exact List.mem_cons_of_mem _ (ih.1 ⟨c, b, by simpa using h2⟩)
        · cases c with
          | nil => exact List.mem_cons_of_mem _ (ih.1 ⟨[], b, by simpa using h2.symm⟩)
          | cons y c => simp at h2; rw [← h2.1] at h1; exact absurd (by rw [h1]; simp) hw
    · intro h
      rcases List.mem_cons.1 h with rfl | h
      · exact ⟨[], r, by simp [blanked, hr]⟩
      · obtain ⟨a, b, h⟩ := ih.2 h
        exact ⟨32 :: (w ++ a), b, by rw [blanked, h]; simp⟩
def wordsText : List UInt8 := (([32, 98, 97, 115, 101, 32, 98, 114, 101, 97, 107, 32, 99, 97, 115, 101, 32, 99, 97, 116, 99, 104, 32, 99, 108, 97, 115, 115, 32, 99, 108, 111, 110, 101, 32, 99, 111, 110, 115, 116, 32, 99, 111, 110, 115, 116, 114, 117, 99, 116, 111, 114, 32, 99, 111].append [110, 116, 105, 110, 117, 101, 32, 100, 101, 102, 97, 117, 108, 116, 32, 100, 101, 108, 101, 116, 101, 32, 100, 111, 32, 101, 108, 115, 101, 32, 101, 110, 117, 109, 32, 101, 120, 116, 101, 110, 100, 115, 32, 102, 97, 108, 115, 101, 32, 102, 111, 114, 32, 102, 111]).append ([114, 101, 97, 99, 104, 32, 102, 117, 110, 99, 116, 105, 111, 110, 32, 105, 102, 32, 105, 110, 32, 105, 110, 115, 116, 97, 110, 99, 101, 111, 102, 32, 108, 111, 99, 97, 108, 32, 110, 117, 108, 108, 32, 114, 101, 115, 117, 109, 101, 32, 114, 101, 116, 117, 114].append [110, 32, 115, 116, 97, 116, 105, 99, 32, 115, 119, 105, 116, 99, 104, 32, 116, 104, 105, 115, 32, 116, 104, 114, 111, 119, 32, 116, 114, 117, 101, 32, 116, 114, 121, 32, 116, 121, 112, 101, 111, 102, 32, 119, 104, 105, 108, 101, 32, 121, 105, 101, 108, 100, 32]))
theorem words_blanked : wordsText = blanked wordList := by decide +kernel
theorem words_names : ∀ w ∈ wordList, nameB w = true := by decide +kernel
theorem words_noblank : ∀ w ∈ wordList, (32 : UInt8) ∉ w := by decide +kernel
theorem name_noblank {l : List UInt8} (h : nameB l = true) : (32 : UInt8) ∉ l := by
  cases l with
  | nil => simp
  | cons c r =>
    simp only [nameB, Bool.and_eq_true, List.all_eq_true] at h
    intro hm
    rcases List.mem_cons.1 hm with rfl | hm
    · exact absurd h.1 (by decide)
    · exact absurd (h.2 _ hm) (by decide)
theorem keyB_is (l : List UInt8) : keyB l = (nameB l && decide (0 ≤ Lib.index wordsText (32 :: l ++ [32]))) := by
  rw [Bool.eq_iff_iff]
  simp only [keyB, List.contains_iff_mem, Bool.and_eq_true, decide_eq_true_eq]
  constructor
  · intro h
    have hn := words_names l h
    exact ⟨hn, (idx_iff _ _).2 (by rw [words_blanked]; exact (among_blanked (name_noblank hn) _ words_noblank).2 h)⟩
  · rintro ⟨hn, h⟩
    obtain h2 := (idx_iff _ _).1 h
    rw [words_blanked] at h2
    exact (among_blanked (name_noblank hn) _ words_noblank).1 h2
end Go.Proofs.YtafndbmjohhhpaaDoor
namespace Go.Proofs.YtafndbmjohhhpaaDoor
open Go.RowKit
set_option maxRecDepth 100000

theorem blank_list (s : ByteArray) : ((⟨#[32]⟩ : ByteArray) ++ s ++ ⟨#[32]⟩).data.toList = 32 :: s.data.toList ++ [32] := by simp
set_option maxHeartbeats 1000000 in
theorem lex_Keyword (w : World) (s : ByteArray) (m : Int) (hm : MaxL w m) (hs : s.size ≤ 140737488351232) : Calls Tryd.prog 12 #[.string s] w fun e w' => e = .returned (.bool (keyB s.data.toList)) ∧ w = w' := by
  have kN := fun W => str_Name s W hs
  have kC := fun W (hW : MaxL W m) => Tryd.strings_Contains ⟨wordsText.toArray⟩ ((⟨#[32]⟩ : ByteArray) ++ s ++ ⟨#[32]⟩) m W (by decide) hW
  rw [blank_list, show Lib.contains (⟨wordsText.toArray⟩ : ByteArray).data.toList (32 :: s.data.toList ++ [32]) = decide (0 ≤ Lib.index wordsText (32 :: s.data.toList ++ [32])) from rfl] at kC
  rw [keyB_is]
  generalize nameB s.data.toList = x at *
  generalize decide (0 ≤ Lib.index wordsText (32 :: s.data.toList ++ [32])) = y at *
  have KN := hidden kN
  have KC := hidden kC
  have HM := hidden hm
  clear kN kC hm
  refine post_gen fun R hR => ?_
  cases x
  · go_enter Tryd.func12, Tryd.ntmps12
    go_wp2_with (first | (go_at_call 26; refine (KN.out _).mono ?_; rintro e _ ⟨rfl, rfl⟩))
    exact hR.out _ _ ⟨rfl, rfl⟩
  · go_enter Tryd.func12, Tryd.ntmps12
    go_wp2_with (first | (go_at_call 26; refine (KN.out _).mono ?_; rintro e _ ⟨rfl, rfl⟩) | (go_at_call 27; refine (KC.out _ HM.out).mono ?_; rintro e _ ⟨rfl, rfl⟩))
    exact hR.out _ _ ⟨rfl, rfl⟩
def quoAns (s : ByteArray) (a : Nat) : Option Nat → Value
  | some n => .tuple #[.string (s.extract (a + 1) (a + 1 + n)), .bool true]
  | none => .tuple #[.string ⟨#[]⟩, .bool false]
theorem quo_cons (q c : UInt8) (r : List UInt8) : quo q (c :: r) = if c = q then some 0 else if c.toNat = 10 then none else if c.toNat = 92 then (match r with | [] => none | d :: r' => if d.toNat = 10 then none else (quo q r').map (· + 2)) else (quo q r).map (· + 1) := by
  rw [quo.eq_def] <;> rfl
theorem quo_at {s : ByteArray} {q : UInt8} {k : Nat} (h : k < s.size) : quo q (s.data.toList.drop k) = if s[k] = q then some 0 else if s[k].toNat = 10 then none else if s[k].toNat = 92 then
      (if h1 : k + 1 < s.size then (if (s[k + 1]'h1).toNat = 10 then none else (quo q (s.data.toList.drop (k + 2))).map (· + 2)) else none)
    else (quo q (s.data.toList.drop (k + 1))).map (· + 1) := by
  rw [list_cons h, quo_cons]
  by_cases h1 : k + 1 < s.size
  · rw [list_cons h1, dif_pos h1]
  · rw [list_nil h1, dif_neg h1]
set_option maxHeartbeats 1000000 in
theorem lex_quoted (w : World) (b : Nat) (s : ByteArray) (a : Nat) (line : Bool) (L : Value) (q : UInt8) (hL : IsLex w b s a line L) (ha : a < s.size) (hs : s.size ≤ 140737488351232) (hq : q.toNat ≠ 10 ∧ q.toNat ≠ 92) :
    Calls Tryd.prog 71 #[.pointer (some ⟨b, 0, none⟩), .int .u8 q.toNat] w fun e w' => e = .returned (quoAns s a (quo q (s.data.toList.drop (a + 1)))) ∧ Keeps (fun _ => False) w w' := by
  have LA := hidden (list_len s)
  have HL := hidden hL
  obtain ⟨q0, q1, q2, q3, z1, z2⟩ := hL.cells
  have hb := blk_lt hL
  clear hL
  generalize hQ : quo q (s.data.toList.drop (a + 1)) = Q
  have HQ := hidden hQ
  clear hQ
  refine post_gen fun R hR => ?_
  go_enter Tryd.func71, Tryd.ntmps71
  go_wp2_with fail
  clear q0 q1 q2 q3 z1 z2
  go_loopw [6] (fun i wr => ∃ k : Nat, a + 1 ≤ k ∧ k ≤ s.size + 1 ∧ i = .int .i64 k ∧ Keeps (fun _ => False) w wr ∧ Hid ((quo q (s.data.toList.drop k)).map (· + (k - (a + 1))) = Q)) (fun i _ => s.size + 1 - (intOf i).toNat)
  case atStart => exact ⟨a + 1, Nat.le_refl _, by omega, by go_num, Keeps.refl _ _, hidden (by rw [HQ.out, Nat.sub_self]; cases Q <;> simp)⟩
  case round =>
    obtain ⟨k, hk0, hk, rfl, hK, HN⟩ := hrel
    have HK := hidden hK
    obtain ⟨q0, q1, q2, q3, z1, z2⟩ := (HL.out.keeps hK (fun h => h)).cells
    have hbr := Nat.lt_of_lt_of_le hb hK.size
    clear hK
    by_cases hlt : k < s.size
    rotate_left
    · have hn := HN.out
      rw [list_nil hlt, quo] at hn
      have HN2 := hidden hn
      clear hn
      go_wp2_with fail
      refine hR.out _ _ ⟨?_, HK.out⟩
      rw [← HN2.out]
      rfl
    have hn := HN.out
    rw [quo_at hlt] at hn
    have HN2 := hidden hn
    clear hn
    by_cases h1 : s[k] = q
    · have hn := HN2.out
      rw [if_pos h1] at hn
      have HN3 := hidden hn
      have j1 : ((s[k].toNat : Int) == q.toNat) = true := by rw [h1]; simp
      clear hn h1
      go_wp2_with fail
      go_quiet (fail)
      go_wp2_with fail
      refine hR.out _ _ ⟨show Ending.returned (.tuple #[.string (s.extract (a + 1) k), .bool true]) = _ from ?_, HK.out.drewN _⟩
      rw [← HN3.out]
      show _ = Ending.returned (.tuple #[.string (s.extract (a + 1) (a + 1 + (0 + (k - (a + 1))))), .bool true])
      rw [show a + 1 + (0 + (k - (a + 1))) = k by omega]
    have j1 : ((s[k].toNat : Int) == q.toNat) = false := by
      rw [beq_eq_false_iff_ne]
      exact fun h => h1 (UInt8.toNat_inj.1 (by omega))
    have hn := HN2.out
    rw [if_neg h1] at hn
    have HN3 := hidden hn
    clear hn h1
    by_cases h2 : s[k].toNat = 10
    · have hn := HN3.out
      rw [if_pos h2] at hn
      have HN4 := hidden hn
      have j2 : ((s[k].toNat : Int) == 10) = true := by simp; omega
      clear hn h2
      go_wp2_with fail
      refine hR.out _ _ ⟨?_, HK.out⟩
      rw [← HN4.out]
      rfl
    have j2 : ((s[k].toNat : Int) == 10) = false := by simp; omega
    have hn := HN3.out
    rw [if_neg h2] at hn
    have HN4 := hidden hn
    clear hn h2
    by_cases h3 : s[k].toNat = 92
    rotate_left
    · have hn := HN4.out
      rw [if_neg h3] at hn
      have HN5 := hidden hn
      have j3 : ((s[k].toNat : Int) == 92) = false := by simp; omega
      clear hn h3
      go_wp2_with fail
      go_roundw
      case rel =>
        refine ⟨k + 1, by omega, by omega, by go_num, HK.out, hidden ?_⟩
        rw [← HN5.out, Option.map_map]
        congr 1
        funext x
        simp
        omega
      case measure => simp [intOf]; omega
    have hn := HN4.out
    rw [if_pos h3] at hn
    have HN5 := hidden hn
    have j3 : ((s[k].toNat : Int) == 92) = true := by simp; omega
    clear hn h3
    by_cases h4 : k + 1 < s.size
    rotate_left
    · have hn := HN5.out
      rw [dif_neg h4] at hn
      have HN6 := hidden hn
      clear hn
      have i4 : ¬ ((k : Int) + 1 < s.size) := by omega
      go_wp2_with fail
      go_roundw
      case rel =>
        refine ⟨k + 2, by omega, by omega, by go_num, HK.out, hidden ?_⟩
        rw [list_nil (by omega), ← HN6.out]
        rfl
      case measure => simp [intOf]; omega
    have hn := HN5.out
    rw [dif_pos h4] at hn
    have HN6 := hidden hn
    clear hn
    by_cases h5 : (s[k + 1]'h4).toNat = 10
    · have hn := HN6.out
      rw [if_pos h5] at hn
      have HN7 := hidden hn
      have j5 : (((s[k + 1]'h4).toNat : Int) == 10) = true := by simp; omega
      clear hn h5
      go_wp2_with fail
      refine hR.out _ _ ⟨?_, HK.out⟩
      rw [← HN7.out]
      rfl
    · have hn := HN6.out
      rw [if_neg h5] at hn
      have HN7 := hidden hn
      have j5 : (((s[k + 1]'h4).toNat : Int) == 10) = false := by simp; omega
      clear hn h5
      go_wp2_with fail
      go_roundw
      case rel =>
        refine ⟨k + 2, by omega, by omega, by go_num, HK.out, hidden ?_⟩
        rw [← HN7.out, Option.map_map]
        congr 1
        funext x
        simp
        omega
      case measure => simp [intOf]; omega
end Go.Proofs.YtafndbmjohhhpaaDoor
namespace Go.Proofs.YtafndbmjohhhpaaDoor
open Go.RowKit
set_option maxRecDepth 100000

def TokAt (w : World) (b : Nat) (k a : Int) (t : ByteArray) (n : Int) (l : Bool) : Prop := w.heap[b]? = some (.cells #[.int .i64 k, .int .i64 a, .string t, .int .i64 n, .bool l] 33 (0, 0))
theorem TokAt.new (w : World) (k a : Int) (t : ByteArray) (n : Int) (l : Bool) : TokAt (w.alloc (.cells #[.int .i64 k, .int .i64 a, .string t, .int .i64 n, .bool l] 33)) w.heap.size k a t n l := blk_new _ _
section
variable {w w1 : World} {b : Nat} {k a : Int} {t : ByteArray} {n : Int} {l : Bool}
theorem TokAt.cells (h : TokAt w b k a t n l) : w.cell? ⟨b, 0, none⟩ = some (.int .i64 k) ∧ w.cell? ⟨b, 1, none⟩ = some (.int .i64 a) ∧ w.cell? ⟨b, 2, none⟩ = some (.string t) ∧ w.cell? ⟨b, 3, none⟩ = some (.int .i64 n) ∧ w.cell? ⟨b, 4, none⟩ = some (.bool l) :=
  ⟨blk_cell h 0, blk_cell h 1, blk_cell h 2, blk_cell h 3, blk_cell h 4⟩
theorem TokAt.frozen (h : TokAt w b k a t n l) : w.frozen? ⟨b, 0, none⟩ = false ∧ w.frozen? ⟨b, 1, none⟩ = false ∧ w.frozen? ⟨b, 2, none⟩ = false ∧ w.frozen? ⟨b, 3, none⟩ = false ∧ w.frozen? ⟨b, 4, none⟩ = false :=
  ⟨blk_frozen h 0, blk_frozen h 1, blk_frozen h 2, blk_frozen h 3, blk_frozen h 4⟩
theorem TokAt.keeps {S : Nat → Prop} (h : TokAt w b k a t n l) (hk : Keeps S w w1) (hn : ¬ S b) : TokAt w1 b k a t n l := hk.heap h hn
theorem TokAt.set (h : TokAt w b k a t n l) (k1 a1 : Int) (t1 : ByteArray) (n1 : Int) (l1 : Bool) :
    TokAt (((((w.setCell ⟨b, 0, none⟩ (.int .i64 k1)).setCell ⟨b, 1, none⟩ (.int .i64 a1)).setCell ⟨b, 2, none⟩ (.string t1)).setCell ⟨b, 3, none⟩ (.int .i64 n1)).setCell ⟨b, 4, none⟩ (.bool l1)) b k1 a1 t1 n1 l1 :=
  blk_set (blk_set (blk_set (blk_set (blk_set h 0 _) 1 _) 2 _) 3 _) 4 _
end
theorem Keeps.tok {S : Nat → Prop} {a w : World} (h : Keeps S a w) {b : Nat} (hb : b < a.heap.size → S b) (x0 x1 x2 x3 x4 : Value) : Keeps S a (((((w.setCell ⟨b, 0, none⟩ x0).setCell ⟨b, 1, none⟩ x1).setCell ⟨b, 2, none⟩ x2).setCell ⟨b, 3, none⟩ x3).setCell ⟨b, 4, none⟩ x4) :=
  ((((h.setCell (p := ⟨b, 0, none⟩) hb x0).setCell (p := ⟨b, 1, none⟩) hb x1).setCell (p := ⟨b, 2, none⟩) hb x2).setCell (p := ⟨b, 3, none⟩) hb x3).setCell (p := ⟨b, 4, none⟩) hb x4
def tokV (k : Int) (t : ByteArray) (n : Int) : Value := .agg #[.int .i64 k, .int .i64 0, .string t, .int .i64 n, .bool false]
theorem mkS_data (l : List UInt8) : (mkS l).data.toList = l := by simp [mkS]
set_option maxHeartbeats 1000000 in
theorem lex_name (w : World) (b : Nat) (s : ByteArray) (a : Nat) (line : Bool) (L : Value) (m : Int) (hm : MaxL w m) (hL : IsLex w b s a line L) (ha : a ≤ s.size) (hs : s.size ≤ 140737488351232) :
    Calls Tryd.prog 50 #[.pointer (some ⟨b, 0, none⟩)] w fun e w' => e = .returned (tokV (if keyB (wordL (s.data.toList.drop a)) then 2 else 1) (mkS (wordL (s.data.toList.drop a))) 0) ∧ IsLex w' b s (a + (wordL (s.data.toList.drop a)).length) line L ∧ Keeps (fun k => k = b) w w' := by
  have hb := blk_lt hL
  have hne := hm.ne hL
  have HL0 := hidden (hL.keeps ((Keeps.refl (fun _ => False) w).alloc (.cells #[.int .i64 0, .int .i64 0, .string ⟨#[]⟩, .int .i64 0, .bool false] 33)) (fun h => h))
  have HM0 := hidden (hm.keeps ((Keeps.refl (fun _ => False) w).alloc (.cells #[.int .i64 0, .int .i64 0, .string ⟨#[]⟩, .int .i64 0, .bool false] 33)) (fun h => h))
  have HK0 := hidden ((Keeps.refl (fun k => k = b) w).alloc (.cells #[.int .i64 0, .int .i64 0, .string ⟨#[]⟩, .int .i64 0, .bool false] 33))
  have HT0 := hidden (TokAt.new w 0 0 ⟨#[]⟩ 0 false)
  have hw := lex_while (w.alloc (.cells #[.int .i64 0, .int .i64 0, .string ⟨#[]⟩, .int .i64 0, .bool false] 33)) b s a line L HL0.out ha hs
  have hwl : (wordL (s.data.toList.drop a)).length ≤ s.size := by
    have h1 := (List.takeWhile_sublist innerB (l := s.data.toList.drop a)).length_le
    rw [List.length_drop, list_len] at h1
    exact Nat.le_trans h1 (Nat.sub_le _ _)
  have kK := fun (W : World) (hW : MaxL W m) => lex_Keyword W (mkS (wordL (s.data.toList.drop a))) m hW (by rw [mkS_size]; omega)
  rw [mkS_data] at kK
  clear hL hm
  generalize keyB (wordL (s.data.toList.drop a)) = kb at *
  generalize wordL (s.data.toList.drop a) = W at *
  have HW := hidden hw
  have KK := hidden kK
  clear hw kK
  refine post_gen fun R hR => ?_
  cases kb
  all_goals
    go_enter Tryd.func50, Tryd.ntmps50
    go_wp2_with fail
    refine HW.out.mono ?_
    rintro e w1 ⟨rfl, hI, hK⟩
    have HI := hidden hI
    have HT := hidden (HT0.out.keeps hK (by intro h; omega))
    have HK := hidden (HK0.out.trans hK (fun _ _ h => h))
    have HM := hidden (HM0.out.keeps hK hne)
    clear hI hK
    have hz := HK.out.size
    have htz := blk_lt HT.out
    obtain ⟨z0, z1, z2, z3, z4⟩ := HT.out.frozen
    obtain ⟨y0, y1, y2, y3, y4⟩ := HT.out.cells
    go_wp2_with (first | (go_at_call 12; refine (KK.out _ HM.out).mono ?_; rintro e _ ⟨rfl, rfl⟩))
    first
      | (obtain ⟨d0, d1, d2, d3, d4⟩ := (HT.out.set 1 0 (mkS W) 0 false).cells
         refine bodyPost_ret (v := tokV 1 (mkS W) 0) (by simp [results, Tryd.results50, go_sem, d0, d1, d2, d3, d4, tokV]) rfl (hR.out _ _ ⟨rfl, ?_, HK.out.tok (fun h => absurd h (Nat.lt_irrefl _)) _ _ _ _ _⟩))
      | (obtain ⟨d0, d1, d2, d3, d4⟩ := (HT.out.set 2 0 (mkS W) 0 false).cells
         refine bodyPost_ret (v := tokV 2 (mkS W) 0) (by simp [results, Tryd.results50, go_sem, d0, d1, d2, d3, d4, tokV]) rfl (hR.out _ _ ⟨rfl, ?_, HK.out.tok (fun h => absurd h (Nat.lt_irrefl _)) _ _ _ _ _⟩))
    exact HI.out.keeps ((Keeps.refl (fun k => k = w.heap.size) w1).tok (fun _ => rfl) _ _ _ _ _) (by intro h; omega)
end Go.Proofs.YtafndbmjohhhpaaDoor
namespace Go.Proofs.YtafndbmjohhhpaaDoor
open Go.RowKit
set_option maxRecDepth 100000

def fltV (c a : Int) : Value := .agg #[.int .i64 c, .int .i64 a]
def cutAns (a : Nat) : (Int × List UInt8 × Int × Nat) ⊕ (Int × Nat) → Value
  | .inl t => .tuple #[tokV t.1 (mkS t.2.1) t.2.2.1, fltV 0 0]
  | .inr e => .tuple #[tokV 0 ⟨#[]⟩ 0, fltV e.1 (a + e.2 : Nat)]
def cutAt (a : Nat) : (Int × List UInt8 × Int × Nat) ⊕ (Int × Nat) → Nat
  | .inl t => a + t.2.2.2
  | .inr _ => a
def strCut (q : UInt8) (r : List UInt8) : (Int × List UInt8 × Int × Nat) ⊕ (Int × Nat) :=
  match quo q r with
  | none => .inr (5, 0)
  | some n => match unesc (r.take n) with
    | .inr k => .inr (20, 1 + k)
    | .inl t => .inl (4, t, 0, n + 2)
theorem quo_lt (q : UInt8) : ∀ (m : Nat) (l : List UInt8), l.length ≤ m → ∀ n, quo q l = some n → n < l.length := by
  intro m
  induction m with
  | zero =>
    intro l hl n h
    obtain rfl := List.eq_nil_of_length_eq_zero (Nat.le_zero.1 hl)
    cases h
  | succ m ih =>
    intro l hl n h
    cases l with
    | nil => cases h
    | cons c r =>
      simp only [List.length_cons] at hl
      rw [quo_cons] at h
      by_cases h1 : c = q
      · rw [if_pos h1] at h; cases h; simp
      rw [if_neg h1] at h
      by_cases h2 : c.toNat = 10
      · rw [if_pos h2] at h; cases h
      rw [if_neg h2] at h
      by_cases h3 : c.toNat = 92
      · rw [if_pos h3] at h
        cases r with
        | nil => cases h
        | cons d r' =>
          simp only at h
          by_cases h4 : d.toNat = 10
          · rw [if_pos h4] at h; cases h
          rw [if_neg h4] at h
          obtain ⟨k, hk, rfl⟩ := Option.map_eq_some_iff.1 h
          simp only [List.length_cons] at hl
          have := ih r' (by omega) k hk
          simp; omega
      · rw [if_neg h3] at h
        obtain ⟨k, hk, rfl⟩ := Option.map_eq_some_iff.1 h
        have := ih r (by omega) k hk
        simp; omega
theorem extract_take (s : ByteArray) (a n : Nat) : (s.extract (a + 1) (a + 1 + n)).data.toList = (s.data.toList.drop (a + 1)).take n := by
  rw [ByteArray.data_extract, Array.toList_extract, List.extract_eq_take_drop]
  simp
theorem unescF_lt (f : Nat) : ∀ (a : Nat) (l : List UInt8) (k : Nat), unescF f a l = .inr k → a ≤ k ∧ k < a + l.length := by
  induction f with
  | zero => intro a l k h; cases h
  | succ f ih =>
    intro a l k h
    cases l with
    | nil => cases h
    | cons c r =>
      simp only [unescF] at h
      by_cases hc : c.toNat = 92
      · rw [if_pos hc] at h
        by_cases hb : (beh r).2 = 0
        · rw [if_pos hb] at h
          cases h
          simp
        · rw [if_neg hb] at h
          cases hu : unescF f (a + 1 + (beh r).2) (r.drop (beh r).2) with
          | inl t => rw [hu] at h; cases h
          | inr m =>
            rw [hu] at h
            cases h
            have := ih _ _ _ hu
            have h2 := beh_le r
            simp only [List.length_drop, List.length_cons] at this ⊢
            omega
      · rw [if_neg hc] at h
        cases hu : unescF f (a + 1) r with
        | inl t => rw [hu] at h; cases h
        | inr m =>
          rw [hu] at h
          cases h
          have := ih _ _ _ hu
          simp only [List.length_cons]
          omega
theorem unesc_lt {l : List UInt8} {k : Nat} (h : unesc l = .inr k) : k < l.length := by
  have := unescF_lt _ _ _ _ h
  omega
def Res (w W : World) : Prop := TokAt W w.heap.size 0 0 ⟨#[]⟩ 0 false ∧ FaultAt W (w.heap.size + 1) 0 0
theorem Res.new (w : World) : Res w ((w.alloc (.cells #[.int .i64 0, .int .i64 0, .string ⟨#[]⟩, .int .i64 0, .bool false] 33)).alloc (.cells #[.int .i64 0, .int .i64 0] 29)) := by
  refine ⟨((Keeps.refl (fun _ => False) _).alloc _).heap (TokAt.new w 0 0 ⟨#[]⟩ 0 false) (fun h => h), ?_⟩
  have := FaultAt.new (w.alloc (.cells #[.int .i64 0, .int .i64 0, .string ⟨#[]⟩, .int .i64 0, .bool false] 33)) 0 0
  simpa using this
theorem Res.keeps {w W W1 : World} {S : Nat → Prop} (h : Res w W) (hk : Keeps S W W1) (h1 : ¬ S w.heap.size) (h2 : ¬ S (w.heap.size + 1)) : Res w W1 := ⟨h.1.keeps hk h1, hk.heap h.2 h2⟩
theorem IsLex.drew {w : World} {b : Nat} {s : ByteArray} {a : Nat} {line : Bool} {L : Value} (h : IsLex w b s a line L) : IsLex w.drew b s a line L := h
theorem cutAns_inr (a : Nat) (c : Int) (k : Nat) : cutAns a (.inr (c, k)) = .tuple #[tokV 0 ⟨#[]⟩ 0, fltV c (a + k : Nat)] := rfl
theorem cutAns_inl (a : Nat) (k : Int) (t : List UInt8) (n : Int) (m : Nat) : cutAns a (.inl (k, t, n, m)) = .tuple #[tokV k (mkS t) n, fltV 0 0] := rfl
theorem cutAt_inr (a : Nat) (c : Int) (k : Nat) : cutAt a (.inr (c, k)) = a := rfl
theorem cutAt_inl (a : Nat) (k : Int) (t : List UInt8) (n : Int) (m : Nat) : cutAt a (.inl (k, t, n, m)) = a + m := rfl
def resW (w w1 : World) (k a : Int) (t : ByteArray) (n : Int) (l : Bool) (c x : Int) : World := ((((((w1.setCell ⟨w.heap.size, 0, none⟩ (.int .i64 k)).setCell ⟨w.heap.size, 1, none⟩ (.int .i64 a)).setCell ⟨w.heap.size, 2, none⟩ (.string t)).setCell ⟨w.heap.size, 3, none⟩ (.int .i64 n)).setCell ⟨w.heap.size, 4, none⟩ (.bool l)).setCell ⟨w.heap.size + 1, 0, none⟩ (.int .i64 c)).setCell ⟨w.heap.size + 1, 1, none⟩ (.int .i64 x)
theorem Res.drew {w w1 : World} (h : Res w w1) : Res w w1.drew := h
theorem Res.done {w w1 : World} {b : Nat} {s : ByteArray} {a1 : Nat} {line : Bool} {L : Value} (hR : Res w w1) (hL : IsLex w1 b s a1 line L) (hK : Keeps (fun k => k = b) w w1) (hb : b < w.heap.size) (k a : Int) (t : ByteArray) (n : Int) (l : Bool) (c x : Int) :
    TokAt (resW w w1 k a t n l c x) w.heap.size k a t n l ∧ FaultAt (resW w w1 k a t n l c x) (w.heap.size + 1) c x ∧ IsLex (resW w w1 k a t n l c x) b s a1 line L ∧ Keeps (fun k => k = b) w (resW w w1 k a t n l c x) := by
  have hz := hK.size
  have k1 := ((Keeps.refl (fun k => k = w.heap.size ∨ k = w.heap.size + 1) w1).tok (b := w.heap.size) (fun _ => .inl rfl) (.int .i64 k) (.int .i64 a) (.string t) (.int .i64 n) (.bool l)).fault (b := w.heap.size + 1) (fun _ => .inr rfl) (.int .i64 c) (.int .i64 x)
  have kt := (Keeps.refl (fun k => k = w.heap.size + 1) (((((w1.setCell ⟨w.heap.size, 0, none⟩ (.int .i64 k)).setCell ⟨w.heap.size, 1, none⟩ (.int .i64 a)).setCell ⟨w.heap.size, 2, none⟩ (.string t)).setCell ⟨w.heap.size, 3, none⟩ (.int .i64 n)).setCell ⟨w.heap.size, 4, none⟩ (.bool l))).fault (b := w.heap.size + 1) (fun _ => rfl) (.int .i64 c) (.int .i64 x)
  have kf := (Keeps.refl (fun k => k = w.heap.size) w1).tok (b := w.heap.size) (fun _ => rfl) (.int .i64 k) (.int .i64 a) (.string t) (.int .i64 n) (.bool l)
  exact ⟨kt.heap (hR.1.set k a t n l) (by omega), FaultAt.set (kf.heap hR.2 (by omega)) c x, k1.heap hL (by omega), hK.trans k1 (fun i hi h => by omega)⟩
set_option maxHeartbeats 2000000 in
theorem lex_str (w : World) (b : Nat) (s : ByteArray) (a : Nat) (line : Bool) (L : Value) (hL : IsLex w b s a line L) (ha : a < s.size) (hs : s.size ≤ 140737488351232) :
    Calls Tryd.prog 53 #[.pointer (some ⟨b, 0, none⟩)] w fun e w' => e = .returned (cutAns a (strCut 34 (s.data.toList.drop (a + 1)))) ∧ IsLex w' b s (cutAt a (strCut 34 (s.data.toList.drop (a + 1)))) line L ∧ Keeps (fun k => k = b) w w' := by
  have hb := blk_lt hL
  have LA := hidden (list_len s)
  have HK0 := hidden (((Keeps.refl (fun k => k = b) w).alloc (.cells #[.int .i64 0, .int .i64 0, .string ⟨#[]⟩, .int .i64 0, .bool false] 33)).alloc (.cells #[.int .i64 0, .int .i64 0] 29))
  have HL0 := hidden (hL.keeps (((Keeps.refl (fun _ => False) w).alloc (.cells #[.int .i64 0, .int .i64 0, .string ⟨#[]⟩, .int .i64 0, .bool false] 33)).alloc (.cells #[.int .i64 0, .int .i64 0] 29)) (fun h => h))
  have HR0 := hidden (Res.new w)
  have hsz : ((w.alloc (.cells #[.int .i64 0, .int .i64 0, .string ⟨#[]⟩, .int .i64 0, .bool false] 33)).alloc (.cells #[.int .i64 0, .int .i64 0] 29)).heap.size = w.heap.size + 2 := by simp
  have HSZ := hidden hsz
  have kq := hidden (fun (W : World) (hW : IsLex W b s a line L) => lex_quoted W b s a line L 34 hW ha hs (by decide))
  clear hL hsz
  have HQ := hidden (show strCut 34 (s.data.toList.drop (a + 1)) = match quo 34 (s.data.toList.drop (a + 1)) with | none => .inr (5, 0) | some n => match unesc ((s.data.toList.drop (a + 1)).take n) with | .inr k => .inr (20, 1 + k) | .inl t => .inl (4, t, 0, n + 2) from rfl)
  have HQL := hidden (quo_lt 34 _ (s.data.toList.drop (a + 1)) (Nat.le_refl _))
  generalize strCut 34 (s.data.toList.drop (a + 1)) = C at *
  generalize hq : quo 34 (s.data.toList.drop (a + 1)) = Q at *
  clear hq
  refine post_gen fun R hR => ?_
  go_enter Tryd.func53, Tryd.ntmps53
  go_wp2_with fail
  generalize ((w.alloc (.cells #[.int .i64 0, .int .i64 0, .string ⟨#[]⟩, .int .i64 0, .bool false] 33)).alloc (.cells #[.int .i64 0, .int .i64 0] 29)) = w0 at *
  refine (kq.out w0 HL0.out).mono ?_
  rintro e w1 ⟨rfl, hK⟩
  have HL1 := hidden (HL0.out.keeps hK (fun h => h))
  have HK1 := hidden (HK0.out.trans hK (fun _ _ h => h.elim))
  have HR1 := hidden (HR0.out.keeps hK (fun h => h) (fun h => h))
  have hz1 : w.heap.size + 2 ≤ w1.heap.size := by have := hK.size; have := HSZ.out; omega
  clear hK HL0 HK0 HR0 kq HSZ
  obtain ⟨q0, q1, q2, q3, z1, z2⟩ := HL1.out.cells
  obtain ⟨t0, t1, t2, t3, t4⟩ := HR1.out.1.cells
  obtain ⟨x0, x1, x2, x3, x4⟩ := HR1.out.1.frozen
  obtain ⟨f0, f1, g0, g1⟩ := FaultAt.cells HR1.out.2
  have SK := hidden (fun (W : World) (hk : Keeps (fun k => w.heap.size ≤ k) w1 W) => show W.cell? ⟨b, 1, none⟩ = some (.int .i64 a) from (HL1.out.keeps hk (by omega)).cells.2.1)
  cases Q with
  | none =>
    unfold quoAns
    go_wp2_with fail
    go_region
    go_wp2_with fail
    obtain ⟨hT, hF, hI, hKK⟩ := HR1.out.done HL1.out HK1.out hb 0 0 ⟨#[]⟩ 0 false 5 a
    obtain ⟨d0, d1, d2, d3, d4⟩ := hT.cells
    obtain ⟨e0, e1, -, -⟩ := FaultAt.cells hF
    simp only [resW] at d0 d1 d2 d3 d4 e0 e1
    have hC : C = .inr (5, 0) := HQ.out
    subst hC
    rw [cutAns_inr, cutAt_inr, Nat.add_zero] at hR
    have hI2 := hI.drew
    have hKK2 := hKK.drew
    refine bodyPost_ret (v := .tuple #[tokV 0 ⟨#[]⟩ 0, fltV 5 a]) ?_ rfl (hR.out _ _ ⟨rfl, hI2, hKK2⟩)
    simp [results, Tryd.results53, go_sem, d0, d1, d2, d3, d4, e0, e1, tokV, fltV]
  | some n =>
    have hn := HQL.out n rfl
    rw [List.length_drop, LA.out] at hn
    have kU := fun W => str_Unescape (s.extract (a + 1) (a + 1 + n)) W (by simp; omega)
    rw [extract_take] at kU
    have HQ1 := hidden (show C = match unesc ((s.data.toList.drop (a + 1)).take n) with | .inr k => .inr (20, 1 + k) | .inl t => .inl (4, t, 0, n + 2) from HQ.out)
    clear HQ HQL
    have hsz : (s.extract (a + 1) (a + 1 + n)).size = n := by simp; omega
    have HUL := hidden (fun k (h : unesc ((s.data.toList.drop (a + 1)).take n) = .inr k) => show k < n by have := unesc_lt h; rw [List.length_take] at this; omega)
    generalize unesc ((s.data.toList.drop (a + 1)).take n) = U at *
    rw [show quoAns s a (some n) = .tuple #[.string (s.extract (a + 1) (a + 1 + n)), .bool true] from rfl]
    generalize s.extract (a + 1) (a + 1 + n) = x at *
    cases U with
    | inr k =>
      rw [show unAns (.inr k) = .tuple #[.string ⟨#[]⟩, .agg #[.int .i64 20, .int .i64 k]] from rfl] at kU
      have KU := hidden kU
      clear kU
      go_wp2_with (first | (go_at_call 72; refine (KU.out _).mono ?_; rintro e w2 ⟨rfl, hK2⟩))
      have HL2 := hidden (HL1.out.keeps (hK2.alloc (.cells #[.int .i64 20, .int .i64 k] 29)) (fun h => h))
      have HK2 := hidden (HK1.out.trans (hK2.alloc (.cells #[.int .i64 20, .int .i64 k] 29)) (fun _ _ h => h.elim))
      have HR2 := hidden (HR1.out.keeps (hK2.alloc (.cells #[.int .i64 20, .int .i64 k] 29)) (fun h => h) (fun h => h))
      have HF := hidden (FaultAt.new w2 20 k)
      have hz2 : w.heap.size + 2 ≤ w2.heap.size := Nat.le_trans hz1 hK2.size
      have hC : C = .inr (20, 1 + k) := HQ1.out
      subst hC
      clear hK2 HL1 HK1 HR1 q0 q1 q2 q3 z1 z2 t0 t1 t2 t3 t4 x0 x1 x2 x3 x4 f0 f1 g0 g1 KU HQ1
      generalize w2.alloc (.cells #[.int .i64 20, .int .i64 k] 29) = w3 at *
      generalize w2.heap.size = fb at *
      obtain ⟨q0, q1, q2, q3, z1, z2⟩ := HL2.out.cells
      obtain ⟨t0, t1, t2, t3, t4⟩ := HR2.out.1.cells
      obtain ⟨x0, x1, x2, x3, x4⟩ := HR2.out.1.frozen
      obtain ⟨f0, f1, g0, g1⟩ := FaultAt.cells HR2.out.2
      obtain ⟨u0, u1, -, -⟩ := FaultAt.cells HF.out
      have hku := HUL.out k rfl
      have hw1 : IntKind.i64.wrap ((a : Int) + 1) = (a : Int) + 1 := IntWalk.i64_in _ (by omega)
      have hw2 : IntKind.i64.wrap ((a : Int) + 1 + k) = (a : Int) + 1 + k := IntWalk.i64_in _ (by omega)
      have SK := hidden (fun (W : World) (hk : Keeps (fun k => w.heap.size ≤ k ∧ k < w.heap.size + 2) w3 W) => show W.cell? ⟨b, 1, none⟩ = some (.int .i64 a) ∧ W.cell? ⟨fb, 0, none⟩ = some (.int .i64 20) ∧ W.cell? ⟨fb, 1, none⟩ = some (.int .i64 k) from ⟨(HL2.out.keeps hk (by omega)).cells.2.1, (FaultAt.cells (hk.heap HF.out (by omega))).1, (FaultAt.cells (hk.heap HF.out (by omega))).2.1⟩)
      go_region_held3 (fun W => W.cell? ⟨b, 1, none⟩ = some (.int .i64 a) ∧ W.cell? ⟨fb, 0, none⟩ = some (.int .i64 20) ∧ W.cell? ⟨fb, 1, none⟩ = some (.int .i64 k)) (((refine SK.out _ ?_); (repeat (with_reducible (first | exact Keeps.refl _ _ | refine Keeps.drewN ?_ _ | refine Keeps.drew ?_ | refine Keeps.tok ?_ (fun _ => ⟨Nat.le_refl _, Nat.lt_add_of_pos_right (by decide)⟩) _ _ _ _ _ | refine Keeps.fault ?_ (fun _ => ⟨Nat.le_add_right _ _, Nat.lt_succ_self _⟩) _ _))))) (fail)
      go_wp2_with fail
      obtain ⟨hT, hF, hI, hKK⟩ := HR2.out.done HL2.out HK2.out hb 0 0 ⟨#[]⟩ 0 false 20 ((a : Int) + 1 + k)
      obtain ⟨d0, d1, d2, d3, d4⟩ := hT.cells
      obtain ⟨e0, e1, -, -⟩ := FaultAt.cells hF
      simp only [resW] at d0 d1 d2 d3 d4 e0 e1
      rw [cutAns_inr, cutAt_inr, show ((a + (1 + k) : Nat) : Int) = (a : Int) + 1 + k by omega] at hR
      refine bodyPost_ret (v := .tuple #[tokV 0 ⟨#[]⟩ 0, fltV 20 ((a : Int) + 1 + k)]) ?_ rfl (hR.out _ _ ⟨rfl, hI.drew, hKK.drew⟩)
      simp [results, Tryd.results53, go_sem, d0, d1, d2, d3, d4, e0, e1, tokV, fltV]
    | inl t =>
      rw [show unAns (.inl t) = .tuple #[.string (mkS t), .agg #[.int .i64 0, .int .i64 0]] from rfl] at kU
      have KU := hidden kU
      clear kU
      go_wp2_with (first | (go_at_call 72; refine (KU.out _).mono ?_; rintro e w2 ⟨rfl, hK2⟩; have HF := hidden (FaultAt.new w2 0 0); have hz2 : w.heap.size + 2 ≤ w2.heap.size := Nat.le_trans hz1 hK2.size; have HL2 := hidden (HL1.out.keeps (hK2.alloc (.cells #[.int .i64 0, .int .i64 0] 29)) (fun h => h)); have HK2 := hidden (HK1.out.trans (hK2.alloc (.cells #[.int .i64 0, .int .i64 0] 29)) (fun _ _ h => h.elim)); have HR2 := hidden (HR1.out.keeps (hK2.alloc (.cells #[.int .i64 0, .int .i64 0] 29)) (fun h => h) (fun h => h)); clear hK2 HL1 HK1 HR1 q0 q1 q2 q3 z1 z2 t0 t1 t2 t3 t4 x0 x1 x2 x3 x4 f0 f1 g0 g1; obtain ⟨q0, q1, q2, q3, z1, z2⟩ := HL2.out.cells; obtain ⟨t0, t1, t2, t3, t4⟩ := HR2.out.1.cells; obtain ⟨x0, x1, x2, x3, x4⟩ := HR2.out.1.frozen; obtain ⟨f0, f1, g0, g1⟩ := FaultAt.cells HR2.out.2; obtain ⟨u0, u1, -, -⟩ := FaultAt.cells HF.out))
      have hC : C = .inl (4, t, 0, n + 2) := HQ1.out
      subst hC
      have hI3 : IsLex ((w2.alloc (.cells #[.int .i64 0, .int .i64 0] 29)).setCell ⟨b, 1, none⟩ (.int .i64 ((a + (n + 2) : Nat) : Int))) b s (a + (n + 2)) line L := HL2.out.setAt (a + (n + 2))
      rw [show ((a + (n + 2) : Nat) : Int) = (a : Int) + ((n : Int) + 2) by omega] at hI3
      obtain ⟨hT, hF, hI, hKK⟩ := Res.done (HR2.out.keeps ((Keeps.refl (fun k => k = b) _).lex rfl 1 _) (by omega) (by omega)) hI3 (HK2.out.lex rfl 1 _) hb 4 0 (mkS t) 0 false 0 0
      obtain ⟨d0, d1, d2, d3, d4⟩ := hT.cells
      obtain ⟨e0, e1, -, -⟩ := FaultAt.cells hF
      simp only [resW] at d0 d1 d2 d3 d4 e0 e1
      rw [cutAns_inl, cutAt_inl] at hR
      refine bodyPost_ret (v := .tuple #[tokV 4 (mkS t) 0, fltV 0 0]) ?_ rfl (hR.out _ _ ⟨rfl, hI, hKK⟩)
      simp [results, Tryd.results53, go_sem, d0, d1, d2, d3, d4, e0, e1, tokV, fltV]
end Go.Proofs.YtafndbmjohhhpaaDoor
namespace Go.Proofs.YtafndbmjohhhpaaDoor
open Go.RowKit
set_option maxRecDepth 100000

def charOf (x : List UInt8) (n : Nat) : List UInt8 → (Int × List UInt8 × Int × Nat) ⊕ (Int × Nat)
  | [b] => .inl (3, 39 :: x ++ [39], b.toNat, n + 2)
  | _ => .inr (5, 0)
def charCut (r : List UInt8) : (Int × List UInt8 × Int × Nat) ⊕ (Int × Nat) :=
  match quo 39 r with
  | none => .inr (5, 0)
  | some n => match unesc (r.take n) with
    | .inr k => .inr (20, 1 + k)
    | .inl t => charOf (r.take n) n t
theorem quote_list (s : ByteArray) : ((⟨#[39]⟩ : ByteArray) ++ s ++ ⟨#[39]⟩).data.toList = 39 :: s.data.toList ++ [39] := by simp
set_option maxHeartbeats 2000000 in
theorem lex_char (w : World) (b : Nat) (s : ByteArray) (a : Nat) (line : Bool) (L : Value) (hL : IsLex w b s a line L) (ha : a < s.size) (hs : s.size ≤ 140737488351232) :
    Calls Tryd.prog 54 #[.pointer (some ⟨b, 0, none⟩)] w fun e w' => e = .returned (cutAns a (charCut (s.data.toList.drop (a + 1)))) ∧ IsLex w' b s (cutAt a (charCut (s.data.toList.drop (a + 1)))) line L ∧ Keeps (fun k => k = b) w w' := by
  have hb := blk_lt hL
  have LA := hidden (list_len s)
  have HK0 := hidden (((Keeps.refl (fun k => k = b) w).alloc (.cells #[.int .i64 0, .int .i64 0, .string ⟨#[]⟩, .int .i64 0, .bool false] 33)).alloc (.cells #[.int .i64 0, .int .i64 0] 29))
  have HL0 := hidden (hL.keeps (((Keeps.refl (fun _ => False) w).alloc (.cells #[.int .i64 0, .int .i64 0, .string ⟨#[]⟩, .int .i64 0, .bool false] 33)).alloc (.cells #[.int .i64 0, .int .i64 0] 29)) (fun h => h))
  have HR0 := hidden (Res.new w)
  have hsz : ((w.alloc (.cells #[.int .i64 0, .int .i64 0, .string ⟨#[]⟩, .int .i64 0, .bool false] 33)).alloc (.cells #[.int .i64 0, .int .i64 0] 29)).heap.size = w.heap.size + 2 := by simp
  have HSZ := hidden hsz
  have kq := hidden (fun (W : World) (hW : IsLex W b s a line L) => lex_quoted W b s a line L 39 hW ha hs (by decide))
  clear hL hsz
  have HQ := hidden (show charCut (s.data.toList.drop (a + 1)) = match quo 39 (s.data.toList.drop (a + 1)) with | none => .inr (5, 0) | some n => match unesc ((s.data.toList.drop (a + 1)).take n) with | .inr k => .inr (20, 1 + k) | .inl t => charOf ((s.data.toList.drop (a + 1)).take n) n t from rfl)
  have HQL := hidden (quo_lt 39 _ (s.data.toList.drop (a + 1)) (Nat.le_refl _))
  generalize charCut (s.data.toList.drop (a + 1)) = C at *
  generalize hq : quo 39 (s.data.toList.drop (a + 1)) = Q at *
  clear hq
  refine post_gen fun R hR => ?_
  go_enter Tryd.func54, Tryd.ntmps54
  go_wp2_with fail
  generalize ((w.alloc (.cells #[.int .i64 0, .int .i64 0, .string ⟨#[]⟩, .int .i64 0, .bool false] 33)).alloc (.cells #[.int .i64 0, .int .i64 0] 29)) = w0 at *
  refine (kq.out w0 HL0.out).mono ?_
  rintro e w1 ⟨rfl, hK⟩
  have HL1 := hidden (HL0.out.keeps hK (fun h => h))
  have HK1 := hidden (HK0.out.trans hK (fun _ _ h => h.elim))
  have HR1 := hidden (HR0.out.keeps hK (fun h => h) (fun h => h))
  have hz1 : w.heap.size + 2 ≤ w1.heap.size := by have := hK.size; have := HSZ.out; omega
  clear hK HL0 HK0 HR0 kq HSZ
  obtain ⟨q0, q1, q2, q3, z1, z2⟩ := HL1.out.cells
  obtain ⟨t0, t1, t2, t3, t4⟩ := HR1.out.1.cells
  obtain ⟨x0, x1, x2, x3, x4⟩ := HR1.out.1.frozen
  obtain ⟨f0, f1, g0, g1⟩ := FaultAt.cells HR1.out.2
  have SK := hidden (fun (W : World) (hk : Keeps (fun k => w.heap.size ≤ k) w1 W) => show W.cell? ⟨b, 1, none⟩ = some (.int .i64 a) from (HL1.out.keeps hk (by omega)).cells.2.1)
  cases Q with
  | none =>
    unfold quoAns
    go_wp2_with fail
    go_region
    go_wp2_with fail
    obtain ⟨hT, hF, hI, hKK⟩ := HR1.out.done HL1.out HK1.out hb 0 0 ⟨#[]⟩ 0 false 5 a
    obtain ⟨d0, d1, d2, d3, d4⟩ := hT.cells
    obtain ⟨e0, e1, -, -⟩ := FaultAt.cells hF
    simp only [resW] at d0 d1 d2 d3 d4 e0 e1
    have hC : C = .inr (5, 0) := HQ.out
    subst hC
    rw [cutAns_inr, cutAt_inr, Nat.add_zero] at hR
    have hI2 := hI.drew
    have hKK2 := hKK.drew
    refine bodyPost_ret (v := .tuple #[tokV 0 ⟨#[]⟩ 0, fltV 5 a]) ?_ rfl (hR.out _ _ ⟨rfl, hI2, hKK2⟩)
    simp [results, Tryd.results54, go_sem, d0, d1, d2, d3, d4, e0, e1, tokV, fltV]
  | some n =>
    have hn := HQL.out n rfl
    rw [List.length_drop, LA.out] at hn
    have kU := fun W => str_Unescape (s.extract (a + 1) (a + 1 + n)) W (by simp; omega)
    rw [extract_take] at kU
    have HQ1 := hidden (show C = match unesc ((s.data.toList.drop (a + 1)).take n) with | .inr k => .inr (20, 1 + k) | .inl t => charOf ((s.data.toList.drop (a + 1)).take n) n t from HQ.out)
    clear HQ HQL
    have hsz : (s.extract (a + 1) (a + 1 + n)).size = n := by simp; omega
    have HUL := hidden (fun k (h : unesc ((s.data.toList.drop (a + 1)).take n) = .inr k) => show k < n by have := unesc_lt h; rw [List.length_take] at this; omega)
    generalize unesc ((s.data.toList.drop (a + 1)).take n) = U at *
    rw [show quoAns s a (some n) = .tuple #[.string (s.extract (a + 1) (a + 1 + n)), .bool true] from rfl]
    have HX := hidden (extract_take s a n)
    generalize s.extract (a + 1) (a + 1 + n) = x at *
    cases U with
    | inr k =>
      rw [show unAns (.inr k) = .tuple #[.string ⟨#[]⟩, .agg #[.int .i64 20, .int .i64 k]] from rfl] at kU
      have KU := hidden kU
      clear kU
      go_wp2_with (first | (go_at_call 72; refine (KU.out _).mono ?_; rintro e w2 ⟨rfl, hK2⟩))
      have HL2 := hidden (HL1.out.keeps (hK2.alloc (.cells #[.int .i64 20, .int .i64 k] 29)) (fun h => h))
      have HK2 := hidden (HK1.out.trans (hK2.alloc (.cells #[.int .i64 20, .int .i64 k] 29)) (fun _ _ h => h.elim))
      have HR2 := hidden (HR1.out.keeps (hK2.alloc (.cells #[.int .i64 20, .int .i64 k] 29)) (fun h => h) (fun h => h))
      have HF := hidden (FaultAt.new w2 20 k)
      have hz2 : w.heap.size + 2 ≤ w2.heap.size := Nat.le_trans hz1 hK2.size
      have hC : C = .inr (20, 1 + k) := HQ1.out
      subst hC
      clear hK2 HL1 HK1 HR1 q0 q1 q2 q3 z1 z2 t0 t1 t2 t3 t4 x0 x1 x2 x3 x4 f0 f1 g0 g1 KU HQ1
      generalize w2.alloc (.cells #[.int .i64 20, .int .i64 k] 29) = w3 at *
      generalize w2.heap.size = fb at *
      obtain ⟨q0, q1, q2, q3, z1, z2⟩ := HL2.out.cells
      obtain ⟨t0, t1, t2, t3, t4⟩ := HR2.out.1.cells
      obtain ⟨x0, x1, x2, x3, x4⟩ := HR2.out.1.frozen
      obtain ⟨f0, f1, g0, g1⟩ := FaultAt.cells HR2.out.2
      obtain ⟨u0, u1, -, -⟩ := FaultAt.cells HF.out
      have hku := HUL.out k rfl
      have hw1 : IntKind.i64.wrap ((a : Int) + 1) = (a : Int) + 1 := IntWalk.i64_in _ (by omega)
      have hw2 : IntKind.i64.wrap ((a : Int) + 1 + k) = (a : Int) + 1 + k := IntWalk.i64_in _ (by omega)
      have SK := hidden (fun (W : World) (hk : Keeps (fun k => w.heap.size ≤ k ∧ k < w.heap.size + 2) w3 W) => show W.cell? ⟨b, 1, none⟩ = some (.int .i64 a) ∧ W.cell? ⟨fb, 0, none⟩ = some (.int .i64 20) ∧ W.cell? ⟨fb, 1, none⟩ = some (.int .i64 k) from ⟨(HL2.out.keeps hk (by omega)).cells.2.1, (FaultAt.cells (hk.heap HF.out (by omega))).1, (FaultAt.cells (hk.heap HF.out (by omega))).2.1⟩)
      go_region_held3 (fun W => W.cell? ⟨b, 1, none⟩ = some (.int .i64 a) ∧ W.cell? ⟨fb, 0, none⟩ = some (.int .i64 20) ∧ W.cell? ⟨fb, 1, none⟩ = some (.int .i64 k)) (((refine SK.out _ ?_); (repeat (with_reducible (first | exact Keeps.refl _ _ | refine Keeps.drewN ?_ _ | refine Keeps.drew ?_ | refine Keeps.tok ?_ (fun _ => ⟨Nat.le_refl _, Nat.lt_add_of_pos_right (by decide)⟩) _ _ _ _ _ | refine Keeps.fault ?_ (fun _ => ⟨Nat.le_add_right _ _, Nat.lt_succ_self _⟩) _ _))))) (fail)
      go_wp2_with fail
      obtain ⟨hT, hF, hI, hKK⟩ := HR2.out.done HL2.out HK2.out hb 0 0 ⟨#[]⟩ 0 false 20 ((a : Int) + 1 + k)
      obtain ⟨d0, d1, d2, d3, d4⟩ := hT.cells
      obtain ⟨e0, e1, -, -⟩ := FaultAt.cells hF
      simp only [resW] at d0 d1 d2 d3 d4 e0 e1
      rw [cutAns_inr, cutAt_inr, show ((a + (1 + k) : Nat) : Int) = (a : Int) + 1 + k by omega] at hR
      refine bodyPost_ret (v := .tuple #[tokV 0 ⟨#[]⟩ 0, fltV 20 ((a : Int) + 1 + k)]) ?_ rfl (hR.out _ _ ⟨rfl, hI.drew, hKK.drew⟩)
      simp [results, Tryd.results54, go_sem, d0, d1, d2, d3, d4, e0, e1, tokV, fltV]
    | inl t =>
      rw [show unAns (.inl t) = .tuple #[.string (mkS t), .agg #[.int .i64 0, .int .i64 0]] from rfl] at kU
      have KU := hidden kU
      clear kU
      by_cases h1 : t.length = 1
      · obtain ⟨b1, rfl⟩ := List.length_eq_one_iff.1 h1
        have hs1 : (mkS [b1]).size = 1 := rfl
        have e9 : (((mkS [b1])[0]'(by rw [hs1]; decide)).toNat : Int) = b1.toNat := rfl
        have w9 : wrap64 (b1.toNat : Int) = b1.toNat := IntWalk.wrap64_in _ (by have := b1.toNat_lt; omega)
        clear h1
        go_wp2_with (first | (go_at_call 72; refine (KU.out _).mono ?_; rintro e w2 ⟨rfl, hK2⟩; have HF := hidden (FaultAt.new w2 0 0); have hz2 : w.heap.size + 2 ≤ w2.heap.size := Nat.le_trans hz1 hK2.size; have HL2 := hidden (HL1.out.keeps (hK2.alloc (.cells #[.int .i64 0, .int .i64 0] 29)) (fun h => h)); have HK2 := hidden (HK1.out.trans (hK2.alloc (.cells #[.int .i64 0, .int .i64 0] 29)) (fun _ _ h => h.elim)); have HR2 := hidden (HR1.out.keeps (hK2.alloc (.cells #[.int .i64 0, .int .i64 0] 29)) (fun h => h) (fun h => h)); clear hK2 HL1 HK1 HR1 q0 q1 q2 q3 z1 z2 t0 t1 t2 t3 t4 x0 x1 x2 x3 x4 f0 f1 g0 g1; obtain ⟨q0, q1, q2, q3, z1, z2⟩ := HL2.out.cells; obtain ⟨t0, t1, t2, t3, t4⟩ := HR2.out.1.cells; obtain ⟨x0, x1, x2, x3, x4⟩ := HR2.out.1.frozen; obtain ⟨f0, f1, g0, g1⟩ := FaultAt.cells HR2.out.2; obtain ⟨u0, u1, -, -⟩ := FaultAt.cells HF.out))
        have hC : C = .inl (3, 39 :: (s.data.toList.drop (a + 1)).take n ++ [39], (b1.toNat : Int), n + 2) := HQ1.out
        rw [← HX.out, ← quote_list] at hC
        subst hC
        have hI3 : IsLex ((w2.alloc (.cells #[.int .i64 0, .int .i64 0] 29)).setCell ⟨b, 1, none⟩ (.int .i64 ((a + (n + 2) : Nat) : Int))) b s (a + (n + 2)) line L := HL2.out.setAt (a + (n + 2))
        rw [show ((a + (n + 2) : Nat) : Int) = (a : Int) + ((n : Int) + 2) by omega] at hI3
        obtain ⟨hT, hF, hI, hKK⟩ := Res.done (HR2.out.keeps ((Keeps.refl (fun k => k = b) _).lex rfl 1 _) (by omega) (by omega)) hI3 (HK2.out.lex rfl 1 _) hb 3 0 ((⟨#[39]⟩ : ByteArray) ++ x ++ ⟨#[39]⟩) (b1.toNat : Int) false 0 0
        obtain ⟨d0, d1, d2, d3, d4⟩ := hT.cells
        obtain ⟨e0, e1, -, -⟩ := FaultAt.cells hF
        simp only [resW] at d0 d1 d2 d3 d4 e0 e1
        rw [cutAns_inl, cutAt_inl, mkS_list] at hR
        refine bodyPost_ret (v := .tuple #[tokV 3 ((⟨#[39]⟩ : ByteArray) ++ x ++ ⟨#[39]⟩) (b1.toNat : Int), fltV 0 0]) ?_ rfl (hR.out _ _ ⟨rfl, hI, hKK⟩)
        simp [results, Tryd.results54, go_sem, d0, d1, d2, d3, d4, e0, e1, tokV, fltV]
      · have hs1 : (((mkS t).size : Int) == 1) = false := by rw [beq_eq_false_iff_ne, mkS_size]; omega
        have hs2 : (((mkS t).size : Int) != 1) = true := by rw [bne, hs1]; rfl
        have hC : C = .inr (5, 0) := by
          rw [HQ1.out]
          match t, h1 with
          | [], _ => rfl
          | [_], h => exact absurd rfl h
          | _ :: _ :: _, _ => rfl
        subst hC
        clear h1 HQ1
        go_wp2_with (first | (go_at_call 72; refine (KU.out _).mono ?_; rintro e w2 ⟨rfl, hK2⟩; have HF := hidden (FaultAt.new w2 0 0); have hz2 : w.heap.size + 2 ≤ w2.heap.size := Nat.le_trans hz1 hK2.size; have HL2 := hidden (HL1.out.keeps (hK2.alloc (.cells #[.int .i64 0, .int .i64 0] 29)) (fun h => h)); have HK2 := hidden (HK1.out.trans (hK2.alloc (.cells #[.int .i64 0, .int .i64 0] 29)) (fun _ _ h => h.elim)); have HR2 := hidden (HR1.out.keeps (hK2.alloc (.cells #[.int .i64 0, .int .i64 0] 29)) (fun h => h) (fun h => h)); clear hK2 HL1 HK1 HR1 q0 q1 q2 q3 z1 z2 t0 t1 t2 t3 t4 x0 x1 x2 x3 x4 f0 f1 g0 g1; obtain ⟨q0, q1, q2, q3, z1, z2⟩ := HL2.out.cells; obtain ⟨t0, t1, t2, t3, t4⟩ := HR2.out.1.cells; obtain ⟨x0, x1, x2, x3, x4⟩ := HR2.out.1.frozen; obtain ⟨f0, f1, g0, g1⟩ := FaultAt.cells HR2.out.2; obtain ⟨u0, u1, -, -⟩ := FaultAt.cells HF.out))
        go_region
        go_wp2_with fail
        obtain ⟨hT, hF, hI, hKK⟩ := HR2.out.done HL2.out HK2.out hb 0 0 ⟨#[]⟩ 0 false 5 a
        obtain ⟨d0, d1, d2, d3, d4⟩ := hT.cells
        obtain ⟨e0, e1, -, -⟩ := FaultAt.cells hF
        simp only [resW] at d0 d1 d2 d3 d4 e0 e1
        rw [cutAns_inr, cutAt_inr, Nat.add_zero] at hR
        refine bodyPost_ret (v := .tuple #[tokV 0 ⟨#[]⟩ 0, fltV 5 a]) ?_ rfl (hR.out _ _ ⟨rfl, hI.drew, hKK.drew⟩)
        simp [results, Tryd.results54, go_sem, d0, d1, d2, d3, d4, e0, e1, tokV, fltV]
end Go.Proofs.YtafndbmjohhhpaaDoor
namespace Go.Proofs.YtafndbmjohhhpaaDoor
set_option maxRecDepth 100000

def parseR (b : Nat) (d : List UInt8) : Int ⊕ Int :=
  if d = [] ∨ d.any (fun c => decide (b ≤ dig c)) = true then .inr 5 else if 9223372036854775808 ≤ digitsV b d then .inr 11 else .inl (digitsV b d : Nat)
def resV : Int ⊕ Int → Value
  | .inl n => .tuple #[.int .i64 n, .int .i64 0]
  | .inr e => .tuple #[.int .i64 0, .int .i64 e]
theorem parseAns_is (b : Nat) (d : List UInt8) : parseAns b d = resV (parseR b d) := by
  simp only [parseAns, parseR]
  split
  · rfl
  · split <;> rfl
theorem parseR_err {b : Nat} {d : List UInt8} {e : Int} (h : parseR b d = .inr e) : (e = 5 ∧ (d = [] ∨ d.any (fun c => decide (b ≤ dig c)) = true)) ∨ (e = 11 ∧ 9223372036854775808 ≤ digitsV b d ∧ ¬ (d = [] ∨ d.any (fun c => decide (b ≤ dig c)) = true)) := by
  simp only [parseR] at h
  split at h
  · cases h; exact .inl ⟨rfl, by assumption⟩
  · split at h
    · cases h; exact .inr ⟨rfl, by assumption, by assumption⟩
    · cases h
theorem parseR_ok {b : Nat} {d : List UInt8} {n : Int} (h : parseR b d = .inl n) : n = (digitsV b d : Nat) ∧ digitsV b d < 9223372036854775808 ∧ ¬ (d = [] ∨ d.any (fun c => decide (b ≤ dig c)) = true) := by
  simp only [parseR] at h
  split at h
  · cases h
  · split at h
    · cases h
    · cases h; exact ⟨rfl, by omega, by assumption⟩
theorem all_of_any {b : Nat} {l : List UInt8} (h : ¬ l.any (fun c => decide (b ≤ dig c)) = true) : ∀ c ∈ l, dig c < b := by
  intro c hc
  rcases Nat.lt_or_ge (dig c) b with h1 | h1
  · exact h1
  · exact absurd (List.any_eq_true.2 ⟨c, hc, by simpa using h1⟩) h
theorem digitsF_add (b n : Nat) (l : List UInt8) : l.foldl (fun n c => n * b + dig c) n = n * b ^ l.length + digitsV b l := by
  induction l generalizing n with
  | nil => simp [digitsV]
  | cons c l ih =>
    have e : digitsV b (c :: l) = (0 * b + dig c) * b ^ l.length + digitsV b l := ih (0 * b + dig c)
    rw [List.foldl_cons, ih, e, List.length_cons, Nat.pow_succ, Nat.add_mul, Nat.mul_assoc n b, Nat.mul_comm b (b ^ l.length)]
    simp [Nat.add_assoc]
theorem digitsV_cons (b : Nat) (c : UInt8) (l : List UInt8) : digitsV b (c :: l) = dig c * b ^ l.length + digitsV b l := by
  show (c :: l).foldl _ 0 = _
  rw [List.foldl_cons, digitsF_add]
  simp
theorem digitsV_lt {b : Nat} {l : List UInt8} (h : ∀ c ∈ l, dig c < b) : digitsV b l < b ^ l.length := by
  induction l with
  | nil => simp [digitsV]
  | cons c l ih =>
    have h1 := ih (fun x hx => h x (List.mem_cons_of_mem _ hx))
    have h2 : dig c + 1 ≤ b := h c (List.mem_cons_self ..)
    have h3 := Nat.mul_le_mul_right (b ^ l.length) h2
    rw [digitsV_cons, List.length_cons, Nat.pow_succ, Nat.mul_comm (b ^ l.length) b]
    rw [Nat.add_mul, Nat.one_mul] at h3
    omega
theorem trim_dig (l : List UInt8) : digitsV 16 (l.dropWhile (· == 48)) = digitsV 16 l := by
  induction l with
  | nil => rfl
  | cons c l ih =>
    rw [List.dropWhile_cons]
    by_cases hc : c = 48
    · subst hc
      simp only [beq_self_eq_true, if_true]
      rw [ih, digitsV_cons]
      have : dig 48 = 0 := by decide
      rw [this]; simp
    · rw [if_neg (by simpa using hc)]
theorem dig_pos {c : UInt8} (h : c ≠ 48) : 1 ≤ dig c := by
  have key : ∀ n : Fin 256, UInt8.ofNat n.val ≠ 48 → 1 ≤ dig (UInt8.ofNat n.val) := by decide +kernel
  have := key ⟨c.toNat, c.toNat_lt⟩
  simp only [UInt8.ofNat_toNat] at this
  exact this h
theorem trim_ge {l : List UInt8} {n : Nat} (hn : (l.dropWhile (· == 48)).length = n + 1) : 16 ^ n ≤ digitsV 16 l := by
  rw [← trim_dig]
  have hh := List.head?_dropWhile_not (p := (· == (48 : UInt8))) (l := l)
  cases hd : l.dropWhile (· == 48) with
  | nil => rw [hd] at hn; cases hn
  | cons c r =>
    rw [hd] at hn hh
    simp at hh hn
    have h1 := dig_pos hh
    have h2 := Nat.mul_le_mul_right (16 ^ r.length) h1
    rw [digitsV_cons, ← hn]
    omega
theorem trim_lt {l : List UInt8} (h : ∀ c ∈ l, dig c < 16) : digitsV 16 l < 16 ^ (l.dropWhile (· == 48)).length := by
  rw [← trim_dig]
  exact digitsV_lt (fun c hc => h c ((List.dropWhile_sublist _).mem hc))
def numP (w : List UInt8) : Int ⊕ Int :=
  if [48, 120].isPrefixOf w = true then
    if ((w.drop 2).dropWhile (· == 48)).length = 16 then
      match parseR 16 ((w.drop 2).take ((w.drop 2).length - 1)), parseR 16 ((w.drop 2).drop ((w.drop 2).length - 1)) with
      | .inl x, .inl y => .inl (IntKind.i64.wrap (x * 16 + y))
      | _, _ => .inr 5
    else parseR 16 (w.drop 2)
  else if 1 < w.length ∧ w.head? = some 48 then .inr 5 else parseR 10 w
theorem numP_is (w : List UInt8) : numP w = numL w := by
  simp only [numP, numL]
  by_cases hx : [48, 120].isPrefixOf w = true
  · rw [if_pos hx, if_pos hx]
    generalize w.drop 2 = d
    by_cases h16 : (d.dropWhile (· == 48)).length = 16
    · rw [if_pos h16]
      have hd : d ≠ [] := by rintro rfl; simp at h16
      have hl : 1 ≤ d.length := List.length_pos_iff.2 hd
      have hl16 : 16 ≤ d.length := by have := (List.dropWhile_sublist (p := (· == (48 : UInt8))) (l := d)).length_le; omega
      obtain ⟨c, hc⟩ : ∃ c, d.drop (d.length - 1) = [c] := by
        have : (d.drop (d.length - 1)).length = 1 := by simp; omega
        exact List.length_eq_one_iff.1 this
      have hs : d = d.take (d.length - 1) ++ [c] := by rw [← hc, List.take_append_drop]
      have htl : (d.take (d.length - 1)) ≠ [] := by
        intro e
        have := congrArg List.length e
        simp at this
        omega
      rw [hc]
      generalize d.take (d.length - 1) = t at *
      by_cases hb : d.any (fun c => decide (16 ≤ dig c)) = true
      · rw [if_pos (.inr hb)]
        rw [hs, List.any_append, Bool.or_eq_true] at hb
        have h1 : (∃ e, parseR 16 t = .inr e) ∨ ∃ e, parseR 16 [c] = .inr e := by
          rcases hb with h | h
          · exact .inl ⟨5, by rw [parseR, if_pos (.inr h)]⟩
          · exact .inr ⟨5, by rw [parseR, if_pos (.inr h)]⟩
        cases hp : parseR 16 t with
        | inr e => rfl
        | inl x =>
          cases hq : parseR 16 [c] with
          | inr e => rfl
          | inl y => rw [hp, hq] at h1; rcases h1 with ⟨e, h⟩ | ⟨e, h⟩ <;> cases h
      · have hall := all_of_any hb
        have hlt := trim_lt hall
        rw [h16] at hlt
        have hV : digitsV 16 d = digitsV 16 t * 16 + dig c := by rw [hs, digitsV_snoc]
        rw [if_neg (fun h => h.elim hd hb), if_neg (by omega)]
        have hta : ¬ t.any (fun c => decide (16 ≤ dig c)) = true := fun h => hb (by rw [hs, List.any_append, h]; rfl)
        have hca : ¬ [c].any (fun c => decide (16 ≤ dig c)) = true := fun h => hb (by rw [hs, List.any_append, h, Bool.or_true])
        have e1 : parseR 16 t = .inl (digitsV 16 t : Nat) := by rw [parseR, if_neg (fun h => h.elim htl hta), if_neg (by omega)]
        have hc16 : dig c < 16 := all_of_any hca c (List.mem_singleton.2 rfl)
        have hcv : digitsV 16 [c] = dig c := by simp [digitsV]
        have e2 : parseR 16 [c] = .inl (dig c : Nat) := by rw [parseR, if_neg (fun h => h.elim (by simp) hca), hcv, if_neg (by omega)]
        rw [e1, e2]
        simp only
        congr 2
        omega
    · rw [if_neg h16, parseR]
      by_cases hbad : d = [] ∨ d.any (fun c => decide (16 ≤ dig c)) = true
      · rw [if_pos hbad, if_pos hbad]
      · rw [if_neg hbad, if_neg hbad]
        have hall := all_of_any (fun h => hbad (.inr h))
        have hlt := trim_lt hall
        rcases Nat.lt_or_ge (d.dropWhile (· == 48)).length 16 with h | h
        · have h3 : (16 : Nat) ^ (d.dropWhile (· == 48)).length ≤ 16 ^ 15 := Nat.pow_le_pow_right (by decide) (by omega)
          have h4 : digitsV 16 d < 1152921504606846976 := Nat.lt_of_lt_of_le hlt h3
          rw [if_neg (by omega), if_neg (by omega), IntWalk.i64_in _ (by omega)]
        · have h2 := trim_ge (l := d) (n := (d.dropWhile (· == 48)).length - 1) (by omega)
          have h3 : (16 : Nat) ^ 16 ≤ 16 ^ ((d.dropWhile (· == 48)).length - 1) := Nat.pow_le_pow_right (by decide) (by omega)
          have h4 : 18446744073709551616 ≤ digitsV 16 d := Nat.le_trans h3 h2
          rw [if_pos (by omega), if_pos h4]
  · rw [if_neg hx, if_neg hx, parseR]
    by_cases h0 : 1 < w.length ∧ w.head? = some 48
    · rw [if_pos h0, if_pos (.inr (.inl h0))]
    · rw [if_neg h0]
      by_cases hb : w = [] ∨ w.any (fun c => decide (10 ≤ dig c)) = true
      · rw [if_pos hb, if_pos (hb.elim .inl (fun h => .inr (.inr h)))]
      · rw [if_neg hb, if_neg (show ¬ (w = [] ∨ (1 < w.length ∧ w.head? = some 48) ∨ w.any (fun c => decide (10 ≤ dig c)) = true) from fun h => h.elim (fun h => hb (.inl h)) (fun h => h.elim h0 (fun h => hb (.inr h))))]
theorem or_low (x : Nat) (y : Nat) (hx : x < 1152921504606846976) (hy : y < 16) (X : Int) (hX : X % 18446744073709551616 = ((x * 16 : Nat) : Int)) : bits BinOp.or .i64 X (y : Int) = IntKind.i64.wrap (((x * 16 + y : Nat)) : Int) := by
  have hb : ∀ Z : Int, BitVec.ofInt 64 Z = BitVec.ofNat 64 (Z % 18446744073709551616).toNat := fun Z => by
    apply BitVec.eq_of_toNat_eq
    rw [BitVec.toNat_ofInt, BitVec.toNat_ofNat]
    have := Int.emod_nonneg Z (show (18446744073709551616 : Int) ≠ 0 by decide)
    have := Int.emod_lt_of_pos Z (show (0 : Int) < 18446744073709551616 by decide)
    omega
  show IntKind.i64.wrap (((BitVec.ofInt 64 X ||| BitVec.ofInt 64 (y : Int)).toNat : Nat) : Int) = _
  rw [hb X, hX, hb, BitVec.toNat_or, BitVec.toNat_ofNat, BitVec.toNat_ofNat, Int.toNat_natCast]
  have e1 : x * 16 % 2 ^ 64 = x <<< 4 := by rw [Nat.shiftLeft_eq]; omega
  have e2 : ((y : Int) % 18446744073709551616).toNat % 2 ^ 64 = y := by omega
  rw [e1, e2, ← Nat.shiftLeft_add_eq_or_of_lt (show y < 2 ^ 4 by omega), Nat.shiftLeft_eq]
open Go.RowKit in
theorem wrap64_mod (n : Int) (h0 : 0 ≤ n) (h1 : n < 18446744073709551616) : wrap64 n % 18446744073709551616 = n := by
  have e : wrap64 n = n + 18446744073709551616 * (-((n + 9223372036854775808) / 18446744073709551616)) := by
    unfold wrap64
    rw [Int.emod_def]
    generalize (n + 9223372036854775808) / 18446744073709551616 = q
    omega
  rw [e, Int.add_mul_emod_self_left, Int.emod_eq_of_lt h0 h1]
theorem hexparts {D : List UInt8} {x y : Int} (h16 : (D.dropWhile (· == 48)).length = 16) (hx : parseR 16 (D.take (D.length - 1)) = .inl x) (hy : parseR 16 (D.drop (D.length - 1)) = .inl y) :
    ∃ m k : Nat, x = m ∧ y = k ∧ m < 1152921504606846976 ∧ k < 16 := by
  obtain ⟨rfl, h1, h2⟩ := parseR_ok hx
  obtain ⟨rfl, h3, h4⟩ := parseR_ok hy
  have hd : D ≠ [] := by rintro rfl; simp at h16
  have hl : 1 ≤ D.length := List.length_pos_iff.2 hd
  obtain ⟨c, hc⟩ : ∃ c, D.drop (D.length - 1) = [c] := by
    have : (D.drop (D.length - 1)).length = 1 := by simp; omega
    exact List.length_eq_one_iff.1 this
  have hs : D = D.take (D.length - 1) ++ [c] := by rw [← hc, List.take_append_drop]
  rw [hc] at h3 h4 ⊢
  have a1 := all_of_any (fun h => h2 (.inr h))
  have a2 := all_of_any (fun h => h4 (.inr h))
  have hcv : digitsV 16 [c] = dig c := by simp [digitsV]
  have hc16 := a2 c (List.mem_singleton.2 rfl)
  have hall : ∀ x ∈ D, dig x < 16 := by
    intro x hx
    rw [hs] at hx
    rcases List.mem_append.1 hx with h | h
    · exact a1 x h
    · exact a2 x h
  have hlt := trim_lt hall
  rw [h16] at hlt
  have hV : digitsV 16 D = digitsV 16 (D.take (D.length - 1)) * 16 + dig c := by conv => lhs; rw [hs, digitsV_snoc]
  refine ⟨_, _, rfl, rfl, ?_, by omega⟩
  omega
open Go.RowKit in
theorem num_Parse16 (s : ByteArray) (w : World) (hm : [45].isPrefixOf s.data.toList = false) (hs : s.size ≤ 140737488351232) :
    Calls Tryd.prog 70 #[.string s, .int .i64 16] w fun e w' => e = .returned (resV (parseR 16 s.data.toList)) ∧ w = w' := by
  rw [← parseAns_is]
  exact num_Parse s 16 w (.inr rfl) hm hs
open Go.RowKit in
theorem num_Parse10 (s : ByteArray) (w : World) (hm : [45].isPrefixOf s.data.toList = false) (hs : s.size ≤ 140737488351232) :
    Calls Tryd.prog 70 #[.string s, .int .i64 10] w fun e w' => e = .returned (resV (parseR 10 s.data.toList)) ∧ w = w' := by
  rw [← parseAns_is]
  exact num_Parse s 10 w (.inl rfl) hm hs
end Go.Proofs.YtafndbmjohhhpaaDoor
namespace Go.Proofs.YtafndbmjohhhpaaDoor
open Go.RowKit
set_option maxRecDepth 100000

def numCut (w : List UInt8) : Int ⊕ Int → (Int × List UInt8 × Int × Nat) ⊕ (Int × Nat)
  | .inl n => .inl (3, w, n, w.length)
  | .inr e => .inr (e, 0)
theorem inner_minus {l : List UInt8} (h : ∀ c ∈ l, innerB c = true) : [45].isPrefixOf l = false := by
  cases l with
  | nil => rfl
  | cons c r =>
    have h1 := h c (List.mem_cons_self ..)
    have hc : ((45 : UInt8) == c) = false := by
      rw [beq_eq_false_iff_ne]
      rintro rfl
      exact absurd h1 (by decide)
    simp [List.isPrefixOf, hc]
theorem wordL_inner (l : List UInt8) : ∀ c ∈ wordL l, innerB c = true := by
  induction l with
  | nil => intro c hc; cases hc
  | cons d l ih =>
    intro c hc
    rw [wordL, List.takeWhile_cons] at hc
    by_cases hd : innerB d = true
    · rw [if_pos hd] at hc
      rcases List.mem_cons.1 hc with rfl | hc
      · exact hd
      · exact ih c hc
    · rw [if_neg hd] at hc; cases hc
theorem wordL_le (l : List UInt8) : (wordL l).length ≤ l.length := (List.takeWhile_sublist innerB (l := l)).length_le
theorem last_list (t : ByteArray) : (t.extract (t.size - 1) t.size).data.toList = t.data.toList.drop (t.data.toList.length - 1) := by
  rw [drop_list, list_len]
set_option maxHeartbeats 1000000 in
theorem lex_number (w : World) (b : Nat) (s : ByteArray) (a : Nat) (line : Bool) (L : Value) (hL : IsLex w b s a line L) (ha : a < s.size) (hs : s.size ≤ 140737488351232) (hd : digitB s[a] = true) :
    Calls Tryd.prog 52 #[.pointer (some ⟨b, 0, none⟩)] w fun e w' => e = .returned (cutAns a (numCut (wordL (s.data.toList.drop a)) (numP (wordL (s.data.toList.drop a))))) ∧ IsLex w' b s (a + (wordL (s.data.toList.drop a)).length) line L ∧ Keeps (fun k => k = b) w w' := by
  have hb := blk_lt hL
  have HK0 := hidden (((Keeps.refl (fun k => k = b) w).alloc (.cells #[.int .i64 0, .int .i64 0, .string ⟨#[]⟩, .int .i64 0, .bool false] 33)).alloc (.cells #[.int .i64 0, .int .i64 0] 29))
  have HL0 := hidden (hL.keeps (((Keeps.refl (fun _ => False) w).alloc (.cells #[.int .i64 0, .int .i64 0, .string ⟨#[]⟩, .int .i64 0, .bool false] 33)).alloc (.cells #[.int .i64 0, .int .i64 0] 29)) (fun h => h))
  have HR0 := hidden (Res.new w)
  have hsz : ((w.alloc (.cells #[.int .i64 0, .int .i64 0, .string ⟨#[]⟩, .int .i64 0, .bool false] 33)).alloc (.cells #[.int .i64 0, .int .i64 0] 29)).heap.size = w.heap.size + 2 := by simp
  have HSZ := hidden hsz
  have kw := hidden (fun (W : World) (hW : IsLex W b s a line L) => lex_while W b s a line L hW (Nat.le_of_lt ha) hs)
  have hin := wordL_inner (s.data.toList.drop a)
  have hwl := wordL_le (s.data.toList.drop a)
  have hw1 : 1 ≤ (wordL (s.data.toList.drop a)).length := by
    rw [list_cons ha, wordL, List.takeWhile_cons, if_pos (by rw [innerB, hd, Bool.or_true])]; simp
  rw [List.length_drop, list_len] at hwl
  obtain ⟨q0, q1, q2, q3, z1, z2⟩ := hL.cells
  clear hL hsz hd
  generalize wordL (s.data.toList.drop a) = V at *
  have hin2 := inner_minus hin
  have HIN := hidden (fun (x : List UInt8) (hx : ∀ c ∈ x, c ∈ V) => inner_minus (fun c hc => hin c (hx c hc)))
  have hVs := mkS_size V
  have hnP : numP V = if [48, 120].isPrefixOf V = true then
    if ((V.drop 2).dropWhile (· == 48)).length = 16 then
      match parseR 16 ((V.drop 2).take ((V.drop 2).length - 1)), parseR 16 ((V.drop 2).drop ((V.drop 2).length - 1)) with
      | .inl x, .inl y => .inl (IntKind.i64.wrap (x * 16 + y))
      | _, _ => .inr 5
    else parseR 16 (V.drop 2)
  else if 1 < V.length ∧ V.head? = some 48 then .inr 5 else parseR 10 V := rfl
  have HNP := hidden hnP
  have kcp := fun W => Tryd.strings_CutPrefix (mkS V) ⟨#[48, 120]⟩ W
  rw [mkS_data] at kcp
  have kp10 := fun W => num_Parse10 (mkS V) W (by rw [mkS_data]; exact hin2) (by rw [hVs]; omega)
  rw [mkS_data] at kp10
  clear hin hin2 hnP
  have KP10 := hidden kp10
  clear kp10
  refine post_gen fun R hR => ?_
  go_enter Tryd.func52, Tryd.ntmps52
  go_wp2_with fail
  generalize ((w.alloc (.cells #[.int .i64 0, .int .i64 0, .string ⟨#[]⟩, .int .i64 0, .bool false] 33)).alloc (.cells #[.int .i64 0, .int .i64 0] 29)) = w0 at *
  refine (kw.out w0 HL0.out).mono ?_
  rintro e w1 ⟨rfl, hI, hK⟩
  have HL1 := hidden hI
  have HK1 := hidden (HK0.out.trans hK (fun _ _ h => h))
  have HR1 := hidden (HR0.out.keeps hK (by omega) (by omega))
  clear hK HL0 HK0 HR0 kw HSZ hI q0 q1 q2 q3 z1 z2
  obtain ⟨t0, t1, t2, t3, t4⟩ := HR1.out.1.cells
  obtain ⟨x0, x1, x2, x3, x4⟩ := HR1.out.1.frozen
  obtain ⟨f0, f1, g0, g1⟩ := FaultAt.cells HR1.out.2
  by_cases hP : [48, 120].isPrefixOf V = true
  · have hn := HNP.out
    rw [if_pos hP] at hn
    rw [show Lib.hasPrefix V (⟨#[48, 120]⟩ : ByteArray).data.toList = true from hP, show Lib.trimPrefix V (⟨#[48, 120]⟩ : ByteArray).data.toList = V.drop 2 by rw [Lib.trimPrefix, if_pos (show Lib.hasPrefix V (⟨#[48, 120]⟩ : ByteArray).data.toList = true from hP)]; rfl, show (⟨(V.drop 2).toArray⟩ : ByteArray) = mkS (V.drop 2) from rfl] at kcp
    have HND := hidden (fun (x : List UInt8) (hx : ∀ c ∈ x, c ∈ V.drop 2) => HIN.out x (fun c hc => List.mem_of_mem_drop (hx c hc)))
    have hdl : (V.drop 2).length ≤ s.size := by rw [List.length_drop]; omega
    clear hP HNP KP10 HIN
    generalize V.drop 2 = D at *
    have hys := mkS_size D
    have hyd := mkS_data D
    generalize mkS D = y at *
    have ktl := fun W => Tryd.strings_TrimLeft_one y 48 (by decide) W
    rw [hyd, show Lib.trimLeftB D 48 = D.dropWhile (· == 48) from rfl, show (⟨(D.dropWhile (· == 48)).toArray⟩ : ByteArray) = mkS (D.dropWhile (· == 48)) from rfl] at ktl
    have hts := mkS_size (D.dropWhile (· == 48))
    have hdd := (List.dropWhile_sublist (p := (· == (48 : UInt8))) (l := D)).length_le
    have HXP := hidden (fun h x y => hexparts (D := D) (x := x) (y := y) h)
    generalize D.dropWhile (· == 48) = T at *
    generalize mkS T = ts at *
    have CP := hidden kcp
    have TL := hidden ktl
    clear kcp ktl
    by_cases h16 : T.length = 16
    · have i16 : ((ts.size : Int) == 16) = true := by rw [hts, h16]; rfl
      rw [if_pos h16] at hn
      have HN := hidden hn
      have hyl : y.data.toList.length = y.size := list_len y
      have e1 : ((y.size : Int) - 1) = ((y.size - 1 : Nat) : Int) := by omega
      have k1 := fun W => num_Parse16 (y.extract 0 (y.size - 1)) W (by rw [take_list, hyd]; exact HND.out _ (fun c hc => List.mem_of_mem_take hc)) (by simp; omega)
      have k2 := fun W => num_Parse16 (y.extract (y.size - 1) y.size) W (by rw [last_list, hyd]; exact HND.out _ (fun c hc => List.mem_of_mem_drop hc)) (by simp; omega)
      rw [take_list, hyd, show D.take (y.size - 1) = D.take (D.length - 1) by rw [hys]] at k1
      rw [last_list, hyd] at k2
      have hne5 : ¬ (5 : Int) = 0 := by decide
      have hy1 : 1 ≤ y.size := by omega
      have hyb : y.size ≤ 140737488351232 := by omega
      have wy : wrap64 ((y.size - 1 : Nat) : Int) = ((y.size - 1 : Nat) : Int) := IntWalk.wrap64_in _ (by omega)
      clear hn hyl
      have HXP := hidden (HXP.out h16)
      clear h16 hys hts hdd hdl hyd hVs
      have HE1 := hidden (fun e => parseR_err (b := 16) (d := D.take (D.length - 1)) (e := e))
      have HE2 := hidden (fun e => parseR_err (b := 16) (d := D.drop (D.length - 1)) (e := e))
      generalize parseR 16 (D.take (D.length - 1)) = r1 at *
      generalize parseR 16 (D.drop (D.length - 1)) = r2 at *
      cases r1 with
      | inr ea =>
        cases r2 with
        | inr eb =>
          have heea : ea = 5 ∨ ea = 11 := (HE1.out ea rfl).elim (fun h => .inl h.1) (fun h => .inr h.1)
          have hnea : ((ea : Int) != 0) = true := by rcases heea with rfl | rfl <;> rfl
          have hmea : ((ea : Int) == 0) = false := by rcases heea with rfl | rfl <;> rfl
          clear heea
          have heeb : eb = 5 ∨ eb = 11 := (HE2.out eb rfl).elim (fun h => .inl h.1) (fun h => .inr h.1)
          have hneb : ((eb : Int) != 0) = true := by rcases heeb with rfl | rfl <;> rfl
          have hmeb : ((eb : Int) == 0) = false := by rcases heeb with rfl | rfl <;> rfl
          clear heeb
          have HN2 := hidden (show numP V = .inr 5 from HN.out)
          rw [show resV (.inr ea) = .tuple #[.int .i64 0, .int .i64 ea] from rfl] at k1
          rw [show resV (.inr eb) = .tuple #[.int .i64 0, .int .i64 eb] from rfl] at k2
          have K1 := hidden k1
          have K2 := hidden k2
          clear k1 k2 HE1 HE2 HXP
          go_wp2_with (first | (go_at_call 68; refine (CP.out _).mono ?_; rintro e _ ⟨rfl, rfl⟩) | (go_at_call 69; refine (TL.out _).mono ?_; rintro e _ ⟨rfl, rfl⟩) | (go_at_call 70; first | (with_reducible refine (K1.out _).mono ?_; rintro e _ ⟨rfl, rfl⟩) | (with_reducible refine (K2.out _).mono ?_; rintro e _ ⟨rfl, rfl⟩)))
          obtain ⟨hT, hF, hI, hKK⟩ := HR1.out.done HL1.out HK1.out hb 0 0 ⟨#[]⟩ 0 false 5 a
          obtain ⟨d0, d1, d2, d3, d4⟩ := hT.cells
          obtain ⟨e0, e1, -, -⟩ := FaultAt.cells hF
          simp only [resW] at d0 d1 d2 d3 d4 e0 e1
          refine bodyPost_ret (v := .tuple #[tokV 0 ⟨#[]⟩ 0, fltV 5 a]) ?_ rfl (hR.out _ _ ⟨?_, hI, hKK⟩)
          · simp [results, Tryd.results52, go_sem, d0, d1, d2, d3, d4, e0, e1, tokV, fltV]
          · rw [HN2.out, numCut, cutAns_inr, Nat.add_zero]
        | inl y =>
          have heea : ea = 5 ∨ ea = 11 := (HE1.out ea rfl).elim (fun h => .inl h.1) (fun h => .inr h.1)
          have hnea : ((ea : Int) != 0) = true := by rcases heea with rfl | rfl <;> rfl
          have hmea : ((ea : Int) == 0) = false := by rcases heea with rfl | rfl <;> rfl
          clear heea
          have HN2 := hidden (show numP V = .inr 5 from HN.out)
          rw [show resV (.inr ea) = .tuple #[.int .i64 0, .int .i64 ea] from rfl] at k1
          rw [show resV (.inl y) = .tuple #[.int .i64 y, .int .i64 0] from rfl] at k2
          have K1 := hidden k1
          have K2 := hidden k2
          clear k1 k2 HE1 HE2 HXP
          go_wp2_with (first | (go_at_call 68; refine (CP.out _).mono ?_; rintro e _ ⟨rfl, rfl⟩) | (go_at_call 69; refine (TL.out _).mono ?_; rintro e _ ⟨rfl, rfl⟩) | (go_at_call 70; first | (with_reducible refine (K1.out _).mono ?_; rintro e _ ⟨rfl, rfl⟩) | (with_reducible refine (K2.out _).mono ?_; rintro e _ ⟨rfl, rfl⟩)))
          obtain ⟨hT, hF, hI, hKK⟩ := HR1.out.done HL1.out HK1.out hb 0 0 ⟨#[]⟩ 0 false 5 a
          obtain ⟨d0, d1, d2, d3, d4⟩ := hT.cells
          obtain ⟨e0, e1, -, -⟩ := FaultAt.cells hF
          simp only [resW] at d0 d1 d2 d3 d4 e0 e1
          refine bodyPost_ret (v := .tuple #[tokV 0 ⟨#[]⟩ 0, fltV 5 a]) ?_ rfl (hR.out _ _ ⟨?_, hI, hKK⟩)
          · simp [results, Tryd.results52, go_sem, d0, d1, d2, d3, d4, e0, e1, tokV, fltV]
          · rw [HN2.out, numCut, cutAns_inr, Nat.add_zero]
      | inl x =>
        cases r2 with
        | inr eb =>
          have heeb : eb = 5 ∨ eb = 11 := (HE2.out eb rfl).elim (fun h => .inl h.1) (fun h => .inr h.1)
          have hneb : ((eb : Int) != 0) = true := by rcases heeb with rfl | rfl <;> rfl
          have hmeb : ((eb : Int) == 0) = false := by rcases heeb with rfl | rfl <;> rfl
          clear heeb
          have HN2 := hidden (show numP V = .inr 5 from HN.out)
          rw [show resV (.inl x) = .tuple #[.int .i64 x, .int .i64 0] from rfl] at k1
          rw [show resV (.inr eb) = .tuple #[.int .i64 0, .int .i64 eb] from rfl] at k2
          have K1 := hidden k1
          have K2 := hidden k2
          clear k1 k2 HE1 HE2 HXP
          go_wp2_with (first | (go_at_call 68; refine (CP.out _).mono ?_; rintro e _ ⟨rfl, rfl⟩) | (go_at_call 69; refine (TL.out _).mono ?_; rintro e _ ⟨rfl, rfl⟩) | (go_at_call 70; first | (with_reducible refine (K1.out _).mono ?_; rintro e _ ⟨rfl, rfl⟩) | (with_reducible refine (K2.out _).mono ?_; rintro e _ ⟨rfl, rfl⟩)))
          obtain ⟨hT, hF, hI, hKK⟩ := HR1.out.done HL1.out HK1.out hb 0 0 ⟨#[]⟩ 0 false 5 a
          obtain ⟨d0, d1, d2, d3, d4⟩ := hT.cells
          obtain ⟨e0, e1, -, -⟩ := FaultAt.cells hF
          simp only [resW] at d0 d1 d2 d3 d4 e0 e1
          refine bodyPost_ret (v := .tuple #[tokV 0 ⟨#[]⟩ 0, fltV 5 a]) ?_ rfl (hR.out _ _ ⟨?_, hI, hKK⟩)
          · simp [results, Tryd.results52, go_sem, d0, d1, d2, d3, d4, e0, e1, tokV, fltV]
          · rw [HN2.out, numCut, cutAns_inr, Nat.add_zero]
        | inl y =>
          obtain ⟨m, k, rfl, rfl, hm, hk⟩ := HXP.out x y rfl rfl
          have HN2 := hidden (show numP V = .inl (IntKind.i64.wrap ((m : Int) * 16 + k)) from HN.out)
          rw [show resV (.inl (m : Int)) = .tuple #[.int .i64 (m : Int), .int .i64 0] from rfl] at k1
          rw [show resV (.inl (k : Int)) = .tuple #[.int .i64 (k : Int), .int .i64 0] from rfl] at k2
          have K1 := hidden k1
          have K2 := hidden k2
          have HOR := hidden (show bits BinOp.or IntKind.i64 (wrap64 ((m : Int) * 16)) (k : Int) = IntKind.i64.wrap ((m : Int) * 16 + k) by
            rw [or_low m k hm hk _ (by rw [wrap64_mod _ (by omega) (by omega)]; omega)]; congr 1)
          clear k1 k2 HE1 HE2 HXP
          go_wp2_with (first | (go_at_call 68; refine (CP.out _).mono ?_; rintro e _ ⟨rfl, rfl⟩) | (go_at_call 69; refine (TL.out _).mono ?_; rintro e _ ⟨rfl, rfl⟩) | (go_at_call 70; first | (with_reducible refine (K1.out _).mono ?_; rintro e _ ⟨rfl, rfl⟩) | (with_reducible refine (K2.out _).mono ?_; rintro e _ ⟨rfl, rfl⟩)))
          obtain ⟨hT, hF, hI, hKK⟩ := HR1.out.done HL1.out HK1.out hb 3 0 (mkS V) (bits BinOp.or IntKind.i64 (wrap64 ((m : Int) * 16)) (k : Int)) false 0 0
          obtain ⟨d0, d1, d2, d3, d4⟩ := hT.cells
          obtain ⟨e0, e1, -, -⟩ := FaultAt.cells hF
          simp only [resW] at d0 d1 d2 d3 d4 e0 e1
          refine bodyPost_ret (v := .tuple #[tokV 3 (mkS V) (bits BinOp.or IntKind.i64 (wrap64 ((m : Int) * 16)) (k : Int)), fltV 0 0]) ?_ rfl (hR.out _ _ ⟨?_, hI, hKK⟩)
          · simp [results, Tryd.results52, go_sem, d0, d1, d2, d3, d4, e0, e1, tokV, fltV]
          · rw [HN2.out, numCut, cutAns_inl, HOR.out]
    · have i16 : ((ts.size : Int) == 16) = false := by rw [beq_eq_false_iff_ne, hts]; omega
      rw [if_neg h16] at hn
      have HN := hidden hn
      have k1 := fun W => num_Parse16 y W (by rw [hyd]; exact HND.out _ (fun c hc => hc)) (by omega)
      rw [hyd] at k1
      have HE := hidden (fun e => parseR_err (b := 16) (d := D) (e := e))
      clear hn h16 hdd hys hts hdl hyd hVs
      generalize parseR 16 D = r at *
      cases r with
      | inr e =>
        have he : e = 5 ∨ e = 11 := (HE.out e rfl).elim (fun h => .inl h.1) (fun h => .inr h.1)
        rw [show resV (.inr e) = .tuple #[.int .i64 0, .int .i64 e] from rfl] at k1
        have K1 := hidden k1
        clear k1 HE
        have hne : ((e : Int) != 0) = true := by rcases he with rfl | rfl <;> rfl
        have hne2 : ((e : Int) == 0) = false := by rcases he with rfl | rfl <;> rfl
        clear he
        go_wp2_with (first | (go_at_call 68; refine (CP.out _).mono ?_; rintro e _ ⟨rfl, rfl⟩) | (go_at_call 69; refine (TL.out _).mono ?_; rintro e _ ⟨rfl, rfl⟩) | (go_at_call 70; first | (with_reducible refine (K1.out _).mono ?_; rintro e _ ⟨rfl, rfl⟩) | (with_reducible refine (K2.out _).mono ?_; rintro e _ ⟨rfl, rfl⟩)))
        obtain ⟨hT, hF, hI, hKK⟩ := HR1.out.done HL1.out HK1.out hb 0 0 ⟨#[]⟩ 0 false e a
        obtain ⟨d0, d1, d2, d3, d4⟩ := hT.cells
        obtain ⟨e0, e1, -, -⟩ := FaultAt.cells hF
        simp only [resW] at d0 d1 d2 d3 d4 e0 e1
        refine bodyPost_ret (v := .tuple #[tokV 0 ⟨#[]⟩ 0, fltV e a]) ?_ rfl (hR.out _ _ ⟨?_, hI, hKK⟩)
        · simp [results, Tryd.results52, go_sem, d0, d1, d2, d3, d4, e0, e1, tokV, fltV]
        · rw [HN.out, numCut, cutAns_inr, Nat.add_zero]
      | inl n =>
        rw [show resV (.inl n) = .tuple #[.int .i64 n, .int .i64 0] from rfl] at k1
        have K1 := hidden k1
        clear k1 HE
        go_wp2_with (first | (go_at_call 68; refine (CP.out _).mono ?_; rintro e _ ⟨rfl, rfl⟩) | (go_at_call 69; refine (TL.out _).mono ?_; rintro e _ ⟨rfl, rfl⟩) | (go_at_call 70; first | (with_reducible refine (K1.out _).mono ?_; rintro e _ ⟨rfl, rfl⟩) | (with_reducible refine (K2.out _).mono ?_; rintro e _ ⟨rfl, rfl⟩)))
        obtain ⟨hT, hF, hI, hKK⟩ := HR1.out.done HL1.out HK1.out hb 3 0 (mkS V) n false 0 0
        obtain ⟨d0, d1, d2, d3, d4⟩ := hT.cells
        obtain ⟨e0, e1, -, -⟩ := FaultAt.cells hF
        simp only [resW] at d0 d1 d2 d3 d4 e0 e1
        refine bodyPost_ret (v := .tuple #[tokV 3 (mkS V) n, fltV 0 0]) ?_ rfl (hR.out _ _ ⟨?_, hI, hKK⟩)
        · simp [results, Tryd.results52, go_sem, d0, d1, d2, d3, d4, e0, e1, tokV, fltV]
        · rw [HN.out, numCut, cutAns_inl]
  · have hn := HNP.out
    rw [if_neg hP] at hn
    have hPf : [48, 120].isPrefixOf V = false := (Bool.not_eq_true _).mp hP
    rw [show Lib.hasPrefix V (⟨#[48, 120]⟩ : ByteArray).data.toList = false from hPf, show Lib.trimPrefix V (⟨#[48, 120]⟩ : ByteArray).data.toList = V by rw [Lib.trimPrefix, if_neg (by rw [show Lib.hasPrefix V (⟨#[48, 120]⟩ : ByteArray).data.toList = false from hPf]; simp)], show (⟨V.toArray⟩ : ByteArray) = mkS V from rfl] at kcp
    have CP := hidden kcp
    have hv0 : 0 < (mkS V).size := by omega
    have hhd : V.head? = some ((mkS V)[0]'hv0) := by
      cases V with
      | nil => simp at hw1
      | cons c r => rfl
    have HHD := hidden hhd
    clear kcp hP hPf HNP hhd HIN
    by_cases h1 : 1 < V.length
    · have i1 : (1 : Int) < (mkS V).size := by omega
      by_cases h48 : ((mkS V)[0]'hv0).toNat = 48
      · have e48 : (((mkS V)[0]'hv0).toNat : Int) = 48 := by omega
        have hc : (mkS V)[0]'hv0 = 48 := UInt8.toNat_inj.1 h48
        rw [if_pos ⟨h1, by rw [HHD.out, hc]⟩] at hn
        have HN := hidden hn
        clear hn h48 hc HHD
        go_wp2_with (first | (go_at_call 68; refine (CP.out _).mono ?_; rintro e _ ⟨rfl, rfl⟩) | (go_at_call 69; refine (TL.out _).mono ?_; rintro e _ ⟨rfl, rfl⟩) | (go_at_call 70; first | (with_reducible refine (K1.out _).mono ?_; rintro e _ ⟨rfl, rfl⟩) | (with_reducible refine (K2.out _).mono ?_; rintro e _ ⟨rfl, rfl⟩)))
        obtain ⟨hT, hF, hI, hKK⟩ := HR1.out.done HL1.out HK1.out hb 0 0 ⟨#[]⟩ 0 false 5 a
        obtain ⟨d0, d1, d2, d3, d4⟩ := hT.cells
        obtain ⟨e0, e1, -, -⟩ := FaultAt.cells hF
        simp only [resW] at d0 d1 d2 d3 d4 e0 e1
        refine bodyPost_ret (v := .tuple #[tokV 0 ⟨#[]⟩ 0, fltV 5 a]) ?_ rfl (hR.out _ _ ⟨?_, hI, hKK⟩)
        · simp [results, Tryd.results52, go_sem, d0, d1, d2, d3, d4, e0, e1, tokV, fltV]
        · rw [HN.out, numCut, cutAns_inr, Nat.add_zero]
      · have e48 : ((((mkS V)[0]'hv0).toNat : Int) == 48) = false := by rw [beq_eq_false_iff_ne]; omega
        rw [if_neg (fun h => h48 (by have h2 := h.2; rw [HHD.out] at h2; injection h2 with h2; rw [h2]; rfl))] at hn
        have HN := hidden hn
        clear hn h48 HHD
        have HE := hidden (fun e => parseR_err (b := 10) (d := V) (e := e))
        have k1 := KP10.out
        clear KP10
        generalize parseR 10 V = r at *
        cases r with
        | inr e =>
          have he : e = 5 ∨ e = 11 := (HE.out e rfl).elim (fun h => .inl h.1) (fun h => .inr h.1)
          rw [show resV (.inr e) = .tuple #[.int .i64 0, .int .i64 e] from rfl] at k1
          have K1 := hidden k1
          clear k1 HE
          have hne : ((e : Int) != 0) = true := by rcases he with rfl | rfl <;> rfl
          have hne2 : ((e : Int) == 0) = false := by rcases he with rfl | rfl <;> rfl
          clear he
          go_wp2_with (first | (go_at_call 68; refine (CP.out _).mono ?_; rintro e _ ⟨rfl, rfl⟩) | (go_at_call 69; refine (TL.out _).mono ?_; rintro e _ ⟨rfl, rfl⟩) | (go_at_call 70; first | (with_reducible refine (K1.out _).mono ?_; rintro e _ ⟨rfl, rfl⟩) | (with_reducible refine (K2.out _).mono ?_; rintro e _ ⟨rfl, rfl⟩)))
          obtain ⟨hT, hF, hI, hKK⟩ := HR1.out.done HL1.out HK1.out hb 0 0 ⟨#[]⟩ 0 false e a
          obtain ⟨d0, d1, d2, d3, d4⟩ := hT.cells
          obtain ⟨e0, e1, -, -⟩ := FaultAt.cells hF
          simp only [resW] at d0 d1 d2 d3 d4 e0 e1
          refine bodyPost_ret (v := .tuple #[tokV 0 ⟨#[]⟩ 0, fltV e a]) ?_ rfl (hR.out _ _ ⟨?_, hI, hKK⟩)
          · simp [results, Tryd.results52, go_sem, d0, d1, d2, d3, d4, e0, e1, tokV, fltV]
          · rw [HN.out, numCut, cutAns_inr, Nat.add_zero]
        | inl n =>
          rw [show resV (.inl n) = .tuple #[.int .i64 n, .int .i64 0] from rfl] at k1
          have K1 := hidden k1
          clear k1 HE
          go_wp2_with (first | (go_at_call 68; refine (CP.out _).mono ?_; rintro e _ ⟨rfl, rfl⟩) | (go_at_call 69; refine (TL.out _).mono ?_; rintro e _ ⟨rfl, rfl⟩) | (go_at_call 70; first | (with_reducible refine (K1.out _).mono ?_; rintro e _ ⟨rfl, rfl⟩) | (with_reducible refine (K2.out _).mono ?_; rintro e _ ⟨rfl, rfl⟩)))
          obtain ⟨hT, hF, hI, hKK⟩ := HR1.out.done HL1.out HK1.out hb 3 0 (mkS V) n false 0 0
          obtain ⟨d0, d1, d2, d3, d4⟩ := hT.cells
          obtain ⟨e0, e1, -, -⟩ := FaultAt.cells hF
          simp only [resW] at d0 d1 d2 d3 d4 e0 e1
          refine bodyPost_ret (v := .tuple #[tokV 3 (mkS V) n, fltV 0 0]) ?_ rfl (hR.out _ _ ⟨?_, hI, hKK⟩)
          · simp [results, Tryd.results52, go_sem, d0, d1, d2, d3, d4, e0, e1, tokV, fltV]
          · rw [HN.out, numCut, cutAns_inl]
    · have i1 : ¬ (1 : Int) < (mkS V).size := by omega
      rw [if_neg (fun h => h1 h.1)] at hn
      have HN := hidden hn
      clear hn HHD
      have HE := hidden (fun e => parseR_err (b := 10) (d := V) (e := e))
      have k1 := KP10.out
      clear KP10
      generalize parseR 10 V = r at *
      cases r with
      | inr e =>
        have he : e = 5 ∨ e = 11 := (HE.out e rfl).elim (fun h => .inl h.1) (fun h => .inr h.1)
        rw [show resV (.inr e) = .tuple #[.int .i64 0, .int .i64 e] from rfl] at k1
        have K1 := hidden k1
        clear k1 HE
        have hne : ((e : Int) != 0) = true := by rcases he with rfl | rfl <;> rfl
        have hne2 : ((e : Int) == 0) = false := by rcases he with rfl | rfl <;> rfl
        clear he
        go_wp2_with (first | (go_at_call 68; refine (CP.out _).mono ?_; rintro e _ ⟨rfl, rfl⟩) | (go_at_call 69; refine (TL.out _).mono ?_; rintro e _ ⟨rfl, rfl⟩) | (go_at_call 70; first | (with_reducible refine (K1.out _).mono ?_; rintro e _ ⟨rfl, rfl⟩) | (with_reducible refine (K2.out _).mono ?_; rintro e _ ⟨rfl, rfl⟩)))
        obtain ⟨hT, hF, hI, hKK⟩ := HR1.out.done HL1.out HK1.out hb 0 0 ⟨#[]⟩ 0 false e a
        obtain ⟨d0, d1, d2, d3, d4⟩ := hT.cells
        obtain ⟨e0, e1, -, -⟩ := FaultAt.cells hF
        simp only [resW] at d0 d1 d2 d3 d4 e0 e1
        refine bodyPost_ret (v := .tuple #[tokV 0 ⟨#[]⟩ 0, fltV e a]) ?_ rfl (hR.out _ _ ⟨?_, hI, hKK⟩)
        · simp [results, Tryd.results52, go_sem, d0, d1, d2, d3, d4, e0, e1, tokV, fltV]
        · rw [HN.out, numCut, cutAns_inr, Nat.add_zero]
      | inl n =>
        rw [show resV (.inl n) = .tuple #[.int .i64 n, .int .i64 0] from rfl] at k1
        have K1 := hidden k1
        clear k1 HE
        go_wp2_with (first | (go_at_call 68; refine (CP.out _).mono ?_; rintro e _ ⟨rfl, rfl⟩) | (go_at_call 69; refine (TL.out _).mono ?_; rintro e _ ⟨rfl, rfl⟩) | (go_at_call 70; first | (with_reducible refine (K1.out _).mono ?_; rintro e _ ⟨rfl, rfl⟩) | (with_reducible refine (K2.out _).mono ?_; rintro e _ ⟨rfl, rfl⟩)))
        obtain ⟨hT, hF, hI, hKK⟩ := HR1.out.done HL1.out HK1.out hb 3 0 (mkS V) n false 0 0
        obtain ⟨d0, d1, d2, d3, d4⟩ := hT.cells
        obtain ⟨e0, e1, -, -⟩ := FaultAt.cells hF
        simp only [resW] at d0 d1 d2 d3 d4 e0 e1
        refine bodyPost_ret (v := .tuple #[tokV 3 (mkS V) n, fltV 0 0]) ?_ rfl (hR.out _ _ ⟨?_, hI, hKK⟩)
        · simp [results, Tryd.results52, go_sem, d0, d1, d2, d3, d4, e0, e1, tokV, fltV]
        · rw [HN.out, numCut, cutAns_inl]
end Go.Proofs.YtafndbmjohhhpaaDoor
