/- Texts that belong together: Base Open Val Copy Vals List ListB ListC ListD ListE ListF. -/
import Derived.WalkKit
import Derived.Lib.AppendStr
import Derived.Deep.Draws
import Derived.Laws.BytesArg
import Derived.Deep.AppendSrc
import Derived.Deep.AppendLies
import Derived.Deep.RegionLaw
import Derived.Deep.QuietTactic
import Derived.BigQuiet
import Derived.BigRegion
import Derived.WalkSpells
import Derived.Deep.LoopGhost
import Derived.Deep.RegionWith
import Derived.Lib.Strings
import Derived.Lib.ConvBytes
import Derived.ProofKit
import Derived.OpenShut
import Derived.ShutString
import Derived.ChangeOld
import Derived.Below
import Derived.SizedLaws
import Derived.SliceStrings
import Derived.ChangeArms
import Derived.Test.YtmefdniocgcckaaRows
import Derived.Lib.AppendZerosOnto
import Derived.Lib.Overlaps
import Derived.Laws.CopyRow
set_option linter.unusedSimpArgs false
set_option linter.unusedVariables false
/- Words on memory, of no program: what a call keeps of the blocks that were there (Keeps), and rows of the call's own by their footprints. -/
namespace Go.Proofs.Ytmefdniocgcckaa
open Go.RowKit

/-- Of the blocks that were there none has turned but those of S. -/
structure Keeps (S : Nat → Prop) (w w' : World) : Prop where
  os : w'.os = w.os
  tape : w'.tape = w.tape
  output : w'.output = w.output
  size : w.heap.size ≤ w'.heap.size
  block : ∀ k, k < w.heap.size → ¬ S k → w'.heap[k]? = w.heap[k]?

theorem Keeps.refl (S : Nat → Prop) (w : World) : Keeps S w w := ⟨rfl, rfl, rfl, Nat.le_refl _, fun _ _ _ => rfl⟩
theorem Keeps.trans {S T : Nat → Prop} {a b c : World} (h : Keeps S a b) (k : Keeps T b c) (hs : ∀ i, i < a.heap.size → T i → S i) : Keeps S a c :=
  ⟨k.os.trans h.os, k.tape.trans h.tape, k.output.trans h.output, Nat.le_trans h.size k.size, fun i hi hn => (k.block i (Nat.lt_of_lt_of_le hi h.size) (fun ht => hn (hs i hi ht))).trans (h.block i hi hn)⟩
theorem Keeps.mono {S T : Nat → Prop} {a b : World} (h : Keeps S a b) (hs : ∀ i, i < a.heap.size → S i → T i) : Keeps T a b :=
  ⟨h.os, h.tape, h.output, h.size, fun i hi hn => h.block i hi (fun x => hn (hs i hi x))⟩
theorem Keeps.drew {S : Nat → Prop} {a w : World} (h : Keeps S a w) : Keeps S a w.drew := ⟨h.os, h.tape, h.output, h.size, h.block⟩
theorem Keeps.drewN {S : Nat → Prop} {a w : World} (h : Keeps S a w) (n : Nat) : Keeps S a (w.drewN n) := ⟨h.os, h.tape, h.output, h.size, h.block⟩
theorem Keeps.alloc {S : Nat → Prop} {a w : World} (h : Keeps S a w) (o : Obj) : Keeps S a (w.alloc o) :=
  ⟨h.os, h.tape, h.output, Nat.le_trans h.size (by simp), fun i hi hn => (Below.heap_alloc _ _ _ (Nat.lt_of_lt_of_le hi h.size)).trans (h.block i hi hn)⟩
theorem Keeps.setCell {S : Nat → Prop} {a w : World} (h : Keeps S a w) {p : Addr} (hp : p.block < a.heap.size → S p.block) (u : Value) : Keeps S a (w.setCell p u) :=
  ⟨h.os, h.tape, h.output, Nat.le_trans h.size (by simp [World.setCell]), fun i hi hn => by
    rw [Below.heap_setCell _ _ _ _ (fun e => hn (by rw [e]; exact hp (by rw [← e]; exact hi)))]
    exact h.block i hi hn⟩
theorem Keeps.grown {S : Nat → Prop} {a w w' : World} {row : Option Nat} (h : Keeps S a w) (hg : w.grownBy w' row) (hr : ∀ k, row = some k → k < a.heap.size → S k) : Keeps S a w' :=
  ⟨hg.os.trans h.os, hg.tape.trans h.tape, hg.output.trans h.output, Nat.le_trans h.size hg.size, fun i hi hn => (hg.block i (Nat.lt_of_lt_of_le hi h.size) (fun e => hn (hr i e.symm hi))).trans (h.block i hi hn)⟩
theorem Keeps.of_below {B : Nat} {a w : World} (h : Below B a w) : Keeps (fun k => B ≤ k) a w := ⟨h.os, h.tape, h.output, h.size, fun i _ hn => h.block i (Nat.lt_of_not_le hn)⟩
theorem Keeps.below {S : Nat → Prop} {B : Nat} {a w : World} (h : Keeps S a w) (hB : B ≤ a.heap.size) (hs : ∀ k, S k → B ≤ k) : Below B a w :=
  ⟨h.os, h.tape, h.output, h.size, fun i hi => h.block i (Nat.lt_of_lt_of_le hi hB) (fun x => Nat.lt_irrefl _ (Nat.lt_of_lt_of_le hi (hs i x)))⟩
theorem Keeps.cell {S : Nat → Prop} {w w' : World} (h : Keeps S w w') {p : Addr} {v : Value} (hc : w.cell? p = some v) (hn : ¬ S p.block) : w'.cell? p = some v :=
  (World.cell?_of_block (w := w) (h.block p.block (World.block_lt_of_cell? w p hc) hn)).trans hc
theorem Keeps.heap {S : Nat → Prop} {w w' : World} (h : Keeps S w w') {k : Nat} {o : Obj} (hc : w.heap[k]? = some o) (hn : ¬ S k) : w'.heap[k]? = some o :=
  (h.block k (Array.getElem?_eq_some_iff.1 hc).1 hn).trans hc

theorem Keeps.step {B : Nat} {F : Nat → Prop} {w wi wj : World} (K : Keeps (fun k => B ≤ k) w wi) (hF : ∀ k, F k → B ≤ k) (k : Keeps F wi wj) : Keeps (fun k => B ≤ k) w wj := K.trans k (fun i _ h => hF i h)
/-- A footprint F that came out of another one: new blocks alone have come. -/
def Fresh (F F' : Nat → Prop) (w : World) : Prop := ∀ k, F' k → F k ∨ w.heap.size ≤ k
def Apart (F G : Nat → Prop) : Prop := ∀ k, F k → ¬ G k
def In (F : Nat → Prop) (w : World) : Prop := ∀ k, F k → k < w.heap.size
theorem Apart.symm {F G : Nat → Prop} (h : Apart F G) : Apart G F := fun k hg hf => h k hf hg
theorem Apart.fresh {F F' G : Nat → Prop} {w : World} (h : Apart F G) (hf : Fresh F F' w) (hG : In G w) : Apart F' G := fun k hk hg => by
  rcases hf k hk with x | x
  · exact h k x hg
  · exact absurd (hG k hg) (by omega)
theorem Apart.none (G : Nat → Prop) : Apart (fun _ => False) G := fun _ h => h.elim
theorem Apart.no (G : Nat → Prop) : Apart G (fun _ => False) := fun _ _ h => h
theorem In.keeps {F S : Nat → Prop} {w w' : World} (h : In F w) (hk : Keeps S w w') : In F w' := fun k x => Nat.lt_of_lt_of_le (h k x) hk.size
theorem Fresh.refl (F : Nat → Prop) (w : World) : Fresh F F w := fun _ h => .inl h
theorem Fresh.trans {F G H S : Nat → Prop} {w w1 : World} (h : Fresh F G w) (k : Fresh G H w1) (hk : Keeps S w w1) : Fresh F H w := fun i hi => by
  rcases k i hi with x | x
  · exact h i x
  · exact .inr (Nat.le_trans hk.size x)
theorem Fresh.ge {F F' : Nat → Prop} {w : World} {B : Nat} (h : Fresh F F' w) (hF : ∀ k, F k → B ≤ k) (hB : B ≤ w.heap.size) : ∀ k, F' k → B ≤ k := fun k hk => by
  rcases h k hk with x | x
  · exact hF k x
  · omega
/-- A call that turned F's blocks into F''s, behind another one. -/
theorem Keeps.fresh {F F' : Nat → Prop} {w w1 w2 : World} (h : Keeps F w w1) (hf : Fresh F F' w) (k : Keeps F' w1 w2) : Keeps F w w2 :=
  h.trans k (fun i hi hx => by rcases hf i hx with x | x; exact x; omega)

/-- A row of the call's own, its block in F. -/
def Row (w : World) (F : Nat → Prop) (e size : Nat) (v : Value) (n : Nat) (xs : List Value) : Prop := w.ownsRow 0 e size v n xs ∧ ∀ k, v.ownBlock = some k → F k
theorem Row.nil (w : World) (F : Nat → Prop) (e size : Nat) : Row w F e size (.slice none 0 0) 0 [] := ⟨w.ownsRow_nil 0 e size, by simp [Value.ownBlock]⟩
theorem Row.lt {w : World} {F : Nat → Prop} {e size n : Nat} {v : Value} {xs : List Value} (h : Row w F e size v n xs) : ∀ k, v.ownBlock = some k → k < w.heap.size := fun k hk => (h.1.lt k hk).2
theorem Row.mono {w : World} {F G : Nat → Prop} {e size n : Nat} {v : Value} {xs : List Value} (h : Row w F e size v n xs) (hG : ∀ k, k < w.heap.size → F k → G k) : Row w G e size v n xs := ⟨h.1, fun k hk => hG k (h.lt k hk) (h.2 k hk)⟩
theorem ownsRow_move {w w1 : World} {base e size n : Nat} {v : Value} {xs : List Value} (h : w.ownsRow base e size v n xs) (hm : ∀ k, v.ownBlock = some k → w1.heap[k]? = w.heap[k]?) : w1.ownsRow base e size v n xs := by
  refine ⟨h.1, ?_⟩
  rcases h.2 with h2 | ⟨g, cap, cur, rfl, hb, hh, r⟩
  · exact .inl h2
  · exact .inr ⟨g, cap, cur, rfl, hb, (hm g rfl).trans hh, r⟩
theorem Row.keeps {w w1 : World} {F S : Nat → Prop} {e size n : Nat} {v : Value} {xs : List Value} (h : Row w F e size v n xs) (hk : Keeps S w w1) (hn : Apart F S) : Row w1 F e size v n xs :=
  ⟨ownsRow_move h.1 (fun k hb => hk.block k (h.lt k hb) (hn k (h.2 k hb))), h.2⟩
theorem Row.form {w : World} {F : Nat → Prop} {e size n : Nat} {v : Value} {xs : List Value} (h : Row w F e size v n xs) : ∃ A c, v = .slice A n c := by
  rcases h.1.2 with ⟨rfl, rfl⟩ | ⟨g, cap, cur, rfl, _⟩
  · exact ⟨_, _, rfl⟩
  · exact ⟨_, _, rfl⟩
theorem ownsRow_form {w : World} {base e size n : Nat} {v : Value} {xs : List Value} (h : w.ownsRow base e size v n xs) : ∃ A c, v = .slice A n c ∧ n ≤ c := by
  rcases h.2 with ⟨rfl, rfl⟩ | ⟨g, cap, cur, rfl, _, _, hc, _⟩
  · exact ⟨_, _, rfl, Nat.le_refl _⟩
  · exact ⟨_, _, rfl, hc⟩
theorem blk_cell {w : World} {g : Nat} {t : TypeId} {cs : Array Value} {z : Nat × Nat} (h : w.heap[g]? = some (.cells cs t z)) (i : Nat) : w.cell? ⟨g, i, none⟩ = cs[i]? := cell_of_row w g i cs t z h
theorem blk_frozen {w : World} {g : Nat} {t : TypeId} {cs : Array Value} (h : w.heap[g]? = some (.cells cs t (0, 0))) (i : Nat) : w.frozen? ⟨g, i, none⟩ = false := by simp [World.frozen?, h]
theorem blk_lt {w : World} {g : Nat} {o : Obj} (h : w.heap[g]? = some o) : g < w.heap.size := (Array.getElem?_eq_some_iff.1 h).1
theorem blk_set {w : World} {g : Nat} {t : TypeId} {cs : Array Value} (h : w.heap[g]? = some (.cells cs t (0, 0))) (i : Nat) (u : Value) : (w.setCell ⟨g, i, none⟩ u).heap[g]? = some (.cells (cs.setIfInBounds i u) t (0, 0)) := by
  simp [World.setCell, Array.getElem?_modify, h]
theorem blk_far {w : World} {g : Nat} {o : Obj} (h : w.heap[g]? = some o) {p : Addr} (hp : g ≠ p.block) (u : Value) : (w.setCell p u).heap[g]? = some o := (Below.heap_setCell w p u g hp).trans h
theorem blk_alloc {w : World} {g : Nat} {o : Obj} (h : w.heap[g]? = some o) (o' : Obj) : (w.alloc o').heap[g]? = some o := (Below.heap_alloc w o' g (blk_lt h)).trans h
theorem blk_new (w : World) (o : Obj) : (w.alloc o).heap[w.heap.size]? = some o := heap_alloc_new w o
theorem blk_ne {w : World} {g g' : Nat} {t t' : TypeId} {cs cs' : Array Value} {z z' : Nat × Nat} (h : w.heap[g]? = some (.cells cs t z)) (h' : w.heap[g']? = some (.cells cs' t' z')) (hne : t ≠ t') : g ≠ g' := by
  rintro rfl
  rw [h] at h'
  simp at h'
  exact hne h'.2.1
theorem own_typed {w : World} {base e size n : Nat} {v : Value} {xs : List Value} (h : w.ownsRow base e size v n xs) (k : Nat) (hk : v.ownBlock = some k) : ∃ cs, w.heap[k]? = some (.cells cs e (0, 0)) := by
  rcases h.2 with ⟨rfl, _⟩ | ⟨g, cap, cur, rfl, _, hg, _⟩
  · simp [Value.ownBlock] at hk
  · simp [Value.ownBlock] at hk
    subst hk
    exact ⟨cur, hg⟩
theorem own_ne {w : World} {base e size n : Nat} {v : Value} {xs : List Value} (h : w.ownsRow base e size v n xs) {g t : Nat} {cs : Array Value} {z : Nat × Nat} (hg : w.heap[g]? = some (.cells cs t z)) (hne : e ≠ t) : ∀ k, v.ownBlock = some k → k ≠ g := by
  rintro k hk rfl
  obtain ⟨cs', h'⟩ := own_typed h k hk
  exact blk_ne h' hg hne rfl
theorem Row.set {w : World} {F : Nat → Prop} {e size n : Nat} {v : Value} {xs : List Value} (h : Row w F e size v n xs) {p : Addr} (hn : ∀ k, v.ownBlock = some k → k ≠ p.block) (u : Value) : Row (w.setCell p u) F e size v n xs :=
  ⟨ownsRow_move h.1 (fun k hb => Below.heap_setCell w p u k (hn k hb)), h.2⟩
theorem Row.drew {w : World} {F : Nat → Prop} {e size n : Nat} {v : Value} {xs : List Value} (h : Row w F e size v n xs) : Row w.drew F e size v n xs := ⟨ownsRow_move h.1 (fun _ _ => rfl), h.2⟩
theorem Row.drewN {w : World} {F : Nat → Prop} {e size n : Nat} {v : Value} {xs : List Value} (h : Row w F e size v n xs) (m : Nat) : Row (w.drewN m) F e size v n xs := ⟨ownsRow_move h.1 (fun _ _ => rfl), h.2⟩
theorem Row.alloc {w : World} {F : Nat → Prop} {e size n : Nat} {v : Value} {xs : List Value} (h : Row w F e size v n xs) (o : Obj) : Row (w.alloc o) F e size v n xs := ⟨ownsRow_move h.1 (fun k hb => Below.heap_alloc w o k (h.lt k hb)), h.2⟩
theorem Row.ne {w : World} {F : Nat → Prop} {e size n : Nat} {v : Value} {xs : List Value} (h : Row w F e size v n xs) {g t : Nat} {cs : Array Value} {z : Nat × Nat} (hg : w.heap[g]? = some (.cells cs t z)) (hne : e ≠ t) : ∀ k, v.ownBlock = some k → k ≠ g := own_ne h.1 hg hne

theorem Row.cap {w : World} {F : Nat → Prop} {e size n c : Nat} {A : Option Addr} {xs : List Value} (h : Row w F e size (.slice A n c) n xs) : n ≤ c := by
  rcases h.1.2 with ⟨h1, rfl⟩ | ⟨g, cap, cur, h1, _, _, hc, _⟩
  · exact Nat.zero_le _
  · simp at h1
    omega
theorem Row.take {w : World} {F : Nat → Prop} {e size n m c : Nat} {A : Option Addr} {xs : List Value} (h : Row w F e size (.slice A n c) n xs) (hm : m ≤ n) : Row w F e size (.slice A m c) m (xs.take (m * size)) := by
  have hl : (xs.take (m * size)).length = m * size := by
    rw [List.length_take, h.1.1]
    exact Nat.min_eq_left (Nat.mul_le_mul_right _ hm)
  refine ⟨⟨hl, ?_⟩, fun k hk => h.2 k (by cases A with | none => simp [Value.ownBlock] at hk | some a => exact hk)⟩
  rcases h.1.2 with ⟨h1, rfl⟩ | ⟨g, cap, cur, h1, hb, hg, hc, hx, hs, ht⟩
  · simp at h1
    obtain rfl : m = 0 := by omega
    exact .inl ⟨by simp [h1], rfl⟩
  · simp at h1
    obtain ⟨rfl, rfl⟩ := h1
    refine .inr ⟨g, c, cur, rfl, hb, hg, by omega, hx, hs, ?_⟩
    rw [← ht, List.take_take]
    congr 1
    exact (Nat.min_eq_left (Nat.mul_le_mul_right _ hm)).symm

theorem Row.made0 (w : World) (e size : Nat) : Row (w.alloc (.cells #[] e)) (fun k => k = w.heap.size) e size (.slice (some ⟨w.heap.size, 0, none⟩) 0 0) 0 [] :=
  ⟨World.ownsRow_made w #[] 0 (Nat.zero_le _) (Nat.zero_le _) (by simp), fun k hk => by simpa [Value.ownBlock] using hk.symm⟩

/-! append, of whatever, onto a row of the call's own -/
section
variable {P : Program}
theorem app_run (w : World) (F : Nat → Prop) (t tx ty e : TypeId) (z : Value) (size bytes : Nat) (ht : P.underlying t = some (.slice e)) (hinfo : (P.info? e).map (fun i => (i.zero, i.size, i.bytes)) = some (some z, size, bytes)) (hzs : z.cells.size = size) (hsz : 0 < size)
    (v : Value) (n : Nat) (xs : List Value) (hR : Row w F e size v n xs) (x : Value) (m : Nat) (news : List Value) (hs : Src P size tx x m news w) (hb0 : n + m ≤ 9223372036854775807) (hbytes : (n + m) * bytes ≤ 140737488355328) :
    ∃ A c w1, (Builtin.append_ #[t, tx] ty #[v, x]).run P w = .ok (.slice A (n + m) c) w1 ∧ Row w1 (fun k => F k ∨ w.heap.size ≤ k) e size (.slice A (n + m) c) (n + m) (xs ++ news) ∧ Keeps (fun k => v.ownBlock = some k) w w1 := by
  obtain ⟨i, hi, hz, hsize, hby⟩ := info_parts hinfo
  subst hsize hby
  have hlen : (xs ++ news).length = (n + m) * i.size := by rw [List.length_append, hR.1.1, hs.newsLen, Nat.add_mul]
  have hmax : n + m ≤ maxLen := by unfold maxLen; omega
  have grown : ∀ (old : Nat), old < n + m → ∃ A c, (.slice (some ⟨w.heap.size, 0, none⟩) (n + m) (grownCap w (n + m) old e) : Value) = .slice A (n + m) c ∧
      Row (w.drew.alloc (.cells ((xs ++ news).toArray ++ Builtin.zeroCells z.cells (grownCap w (n + m) old e - (n + m))) e)) (fun k => F k ∨ w.heap.size ≤ k) e i.size (.slice A (n + m) c) (n + m) (xs ++ news) := by
    intro old ho
    have hge := grownCap_ge w (n + m) old e
    have hcm : grownCap w (n + m) old e ≤ maxLen := grownCap_le_maxLen w (n + m) old e hmax
    refine ⟨_, _, rfl, ⟨hlen, .inr ⟨w.heap.size, _, _, rfl, Nat.zero_le _, heap_alloc_new w.drew _, hge, hcm, ?_, ?_⟩⟩, fun k hk => ?_⟩
    · simp only [Array.size_append, List.size_toArray, size_zeroCells, hzs, hlen]
      rw [← Nat.add_mul]
      congr 1
      omega
    · simp only [Array.toList_append]
      rw [← hlen]
      exact List.take_left
    · simp [Value.ownBlock] at hk
      omega
  rcases hR.1.2 with ⟨rfl, rfl⟩ | ⟨g, cap, cur, rfl, _, hg, hnc, hcm, hcs, htake⟩
  · obtain rfl : xs = [] := List.eq_nil_of_length_eq_zero (by simpa using hR.1.1)
    by_cases hm : m = 0
    · subst hm
      obtain rfl : news = [] := List.eq_nil_of_length_eq_zero (by simpa using hs.newsLen)
      refine ⟨none, 0, w, ?_, Row.nil _ _ _ _, Keeps.refl _ _⟩
      rcases hs.kind with ⟨e', hk⟩ | hk <;> simp [Builtin.append_, run_underlying ht, run_underlying hk, sizeOf, typeInfo, hi, hs.len, hs.cells]
    · have hr := run_append_grow_src w t tx ty e i z ht hi hz none 0 0 [] (run_firstCells_none w.drew i.size 0 0 0) x m news hs (by omega) (by omega) (growslice_fits (by omega) hbytes)
      obtain ⟨A, c, he, hrow⟩ := grown 0 (by omega)
      exact ⟨A, c, _, by rw [← he]; exact hr, hrow, (Keeps.refl _ _).drew.alloc _⟩
  · by_cases hroom : n + m ≤ cap
    · have hfit : n * i.size + news.length ≤ cur.size := by rw [hs.newsLen, hcs, ← Nat.add_mul]; exact Nat.mul_le_mul_right _ hroom
      have hrun : (Builtin.append_ #[t, tx] ty #[.slice (some ⟨g, 0, none⟩) n cap, x]).run P w = .ok (.slice (some ⟨g, 0, none⟩) (n + m) cap) (w.setRow g (cur.toList.take (n * i.size) ++ news ++ cur.toList.drop (n * i.size + news.length)).toArray) := by
        have hst := run_storeCells_at P g (n * i.size) e news 0 cur w hg (by simpa using hfit) hs.one
        simp only [Nat.add_zero] at hst
        rcases hs.kind with ⟨e', hk⟩ | hk <;> simp [Builtin.append_, run_underlying ht, run_underlying hk, sizeOf, typeInfo, hi, hs.len, hroom, hs.cells, Addr.add_lit, hst]
      refine ⟨_, _, _, hrun, ⟨⟨hlen, .inr ⟨g, cap, _, rfl, Nat.zero_le _, setRow_heap w g cur _ e _ hg, hroom, hcm, ?_, ?_⟩⟩, fun k hk => .inl (hR.2 k hk)⟩, ⟨rfl, rfl, rfl, by simp, fun k _ hk => setRow_other w g k _ (fun e => hk (by simp [Value.ownBlock, e]))⟩⟩
      · simp only [List.size_toArray, List.length_append, List.length_take, List.length_drop, Array.length_toList]
        omega
      · rw [htake, ← hlen]
        exact List.take_left
    · have holds : ∀ j u, xs[j]? = some u → w.cell? ((⟨g, 0, none⟩ : Addr).add j) = some u := hR.1.cells (g := g) rfl
      have hr := run_append_grow_src w t tx ty e i z ht hi hz (some ⟨g, 0, none⟩) n cap xs (run_firstCells_some w.drew i.size n ⟨g, 0, none⟩ n cap xs hR.1.1 (by simpa using holds)) x m news hs (by omega) (by omega) (growslice_fits (by omega) hbytes)
      obtain ⟨A, c, he, hrow⟩ := grown cap (by omega)
      exact ⟨A, c, _, by rw [← he]; exact hr, hrow, (Keeps.refl _ _).drew.alloc _⟩

variable {ops : Array Oper} {o : Oper} {a : Act} {Q : Exit → Act → World → Prop} {w : World}
theorem app_wp {K : Act → World → Prop} (F : Nat → Prop) (s x : Operand) (t tx e : TypeId) (z : Value) (size bytes : Nat) (ho : o.op = .call { callee := .builtin .append, args := #[s, x], argTypes := #[t, tx] })
    (ht : P.underlying t = some (.slice e)) (hinfo : (P.info? e).map (fun i => (i.zero, i.size, i.bytes)) = some (some z, size, bytes)) (hzs : z.cells.size = size) (hsz : 0 < size)
    (v : Value) (n : Nat) (xs : List Value) (hv : a.eval s = v) (hR : Row w F e size v n xs) (xv : Value) (hx : a.eval x = xv) (m : Nat) (news : List Value) (hs : Src P size tx xv m news w) (hb0 : n + m ≤ 9223372036854775807) (hbytes : (n + m) * bytes ≤ 140737488355328)
    (h : ∀ A c w1, Row w1 (fun k => F k ∨ w.heap.size ≤ k) e size (.slice A (n + m) c) (n + m) (xs ++ news) → Keeps (fun k => v.ownBlock = some k) w w1 → K (a.put o.dst (.slice A (n + m) c)) w1) : o.wp P a w K Q := by
  obtain ⟨A, c, w1, hr, h1, h2⟩ := app_run w F t tx o.type e z size bytes ht hinfo hzs hsz v n xs hR xv m news hs hb0 hbytes
  unfold Oper.wp execOp
  simp only [ho, resolve, invoke, builtin, Sem.run_bind, Sem.run_pure, Result.andThen_ok, List.map_toArray, List.map_cons, List.map_nil, hv, hx, hr]
  exact h A c w1 h1 h2
theorem app_list {rest : List Oper} (hg : o.guard = none) (F : Nat → Prop) (s x : Operand) (t tx e : TypeId) (z : Value) (size bytes : Nat) (ho : o.op = .call { callee := .builtin .append, args := #[s, x], argTypes := #[t, tx] })
    (ht : P.underlying t = some (.slice e)) (hinfo : (P.info? e).map (fun i => (i.zero, i.size, i.bytes)) = some (some z, size, bytes)) (hzs : z.cells.size = size) (hsz : 0 < size)
    (v : Value) (n : Nat) (xs : List Value) (hv : a.eval s = v) (hR : Row w F e size v n xs) (xv : Value) (hx : a.eval x = xv) (m : Nat) (news : List Value) (hs : Src P size tx xv m news w) (hb0 : n + m ≤ 9223372036854775807) (hbytes : (n + m) * bytes ≤ 140737488355328)
    (h : ∀ A c w1, Row w1 (fun k => F k ∨ w.heap.size ≤ k) e size (.slice A (n + m) c) (n + m) (xs ++ news) → Keeps (fun k => v.ownBlock = some k) w w1 → wpList P ops Q rest (a.put o.dst (.slice A (n + m) c)) w1) : wpList P ops Q (o :: rest) a w :=
  wpList_plain hg fun _ hK => app_wp F s x t tx e z size bytes ho ht hinfo hzs hsz v n xs hv hR xv hx m news hs hb0 hbytes fun A c w1 h1 h2 => hK _ _ (h A c w1 h1 h2)
theorem app_step {K : Act → World → Prop} {E : Prop} (hg : o.guard = none) (F : Nat → Prop) (s x : Operand) (t tx e : TypeId) (z : Value) (size bytes : Nat) (ho : o.op = .call { callee := .builtin .append, args := #[s, x], argTypes := #[t, tx] })
    (ht : P.underlying t = some (.slice e)) (hinfo : (P.info? e).map (fun i => (i.zero, i.size, i.bytes)) = some (some z, size, bytes)) (hzs : z.cells.size = size) (hsz : 0 < size)
    (v : Value) (n : Nat) (xs : List Value) (hv : a.eval s = v) (hR : Row w F e size v n xs) (xv : Value) (hx : a.eval x = xv) (m : Nat) (news : List Value) (hs : Src P size tx xv m news w) (hb0 : n + m ≤ 9223372036854775807) (hbytes : (n + m) * bytes ≤ 140737488355328)
    (h : ∀ A c w1, Row w1 (fun k => F k ∨ w.heap.size ≤ k) e size (.slice A (n + m) c) (n + m) (xs ++ news) → Keeps (fun k => v.ownBlock = some k) w w1 → K (a.put o.dst (.slice A (n + m) c)) w1) :
    if Region.wanted o (yielded ops a.tmps) = true then Oper.wp P o a w K Q else E := by
  have hw : Region.wanted o (yielded ops a.tmps) = true := by simp [Region.wanted, hg]
  rw [if_pos hw]
  exact app_wp F s x t tx e z size bytes ho ht hinfo hzs hsz v n xs hv hR xv hx m news hs hb0 hbytes h
end

/-- w2 is w1 but for block b. -/
structure SameBut (b : Nat) (w1 w2 : World) : Prop where
  os : w2.os = w1.os
  tape : w2.tape = w1.tape
  output : w2.output = w1.output
  size : w2.heap.size = w1.heap.size
  block : ∀ k, k ≠ b → w2.heap[k]? = w1.heap[k]?
theorem SameBut.refl (b : Nat) (w : World) : SameBut b w w := ⟨rfl, rfl, rfl, rfl, fun _ _ => rfl⟩
theorem SameBut.set {b : Nat} {w1 w2 : World} (h : SameBut b w1 w2) (i : Nat) (u : Value) : SameBut b w1 (w2.setCell ⟨b, i, none⟩ u) :=
  ⟨h.os, h.tape, h.output, by simp [World.setCell, h.size], fun k hk => (Below.heap_setCell w2 ⟨b, i, none⟩ u k hk).trans (h.block k hk)⟩
theorem SameBut.drew {b : Nat} {w1 w2 : World} (h : SameBut b w1 w2) : SameBut b w1 w2.drew := ⟨h.os, h.tape, h.output, h.size, h.block⟩
theorem SameBut.drewN {b : Nat} {w1 w2 : World} (h : SameBut b w1 w2) (n : Nat) : SameBut b w1 (w2.drewN n) := ⟨h.os, h.tape, h.output, h.size, h.block⟩
theorem SameBut.keeps {b : Nat} {w1 w2 : World} (h : SameBut b w1 w2) : Keeps (fun k => k = b) w1 w2 := ⟨h.os, h.tape, h.output, Nat.le_of_eq h.size.symm, fun k _ hn => h.block k hn⟩

/-- Behind an append onto a field's row, and stores into the struct's own block b: what is kept, and where the row lies now. -/
theorem upd_end {wr w1 w2 : World} {F : Nat → Prop} {b m e size n n1 : Nat} {v v1 : Value} {xs ys : List Value} (hin : In F wr) (hb : F b) (hR : Row wr F e size v n xs)
    (hR1 : Row w1 (fun k => F k ∨ wr.heap.size ≤ k) e size v1 n1 ys) (hK1 : Keeps (fun k => v.ownBlock = some k) (wr.drewN m) w1) (hne : ∀ k, v1.ownBlock = some k → k ≠ b) (h2 : SameBut b w1 w2) :
    ∃ F2, Row w2 F2 e size v1 n1 ys ∧ F2 b ∧ In F2 w2 ∧ Keeps F wr w2 ∧ Fresh F F2 wr := by
  have hs := hK1.size
  simp only [World.heap_drewN] at hs
  refine ⟨fun k => (F k ∨ wr.heap.size ≤ k) ∧ k < w2.heap.size, ⟨ownsRow_move hR1.1 (fun k hk => h2.block k (hne k hk)), fun k hk => ⟨hR1.2 k hk, by rw [h2.size]; exact hR1.lt k hk⟩⟩, ⟨.inl hb, ?_⟩, fun k hk => hk.2, ?_, fun k hk => hk.1⟩
  · have := hin b hb
    rw [h2.size]; omega
  · have k0 : Keeps (fun k => v.ownBlock = some k) wr w1 := ⟨hK1.os, hK1.tape, hK1.output, hK1.size, hK1.block⟩
    exact (k0.mono (fun i _ hi => hR.2 i hi)).trans h2.keeps (fun i _ hi => hi ▸ hb)

/-- The same world, but that answers were drawn. -/
def Drew (w w' : World) : Prop := ∃ n, w' = w.drewN n
theorem Drew.refl (w : World) : Drew w w := ⟨0, rfl⟩
theorem Drew.drewN {w w' : World} (h : Drew w w') (m : Nat) : Drew w (w'.drewN m) := by
  obtain ⟨n, rfl⟩ := h
  exact ⟨n + m, by simp [World.drewN, Nat.add_assoc]⟩
theorem Drew.drew {w w' : World} (h : Drew w w') : Drew w w'.drew := by
  obtain ⟨n, rfl⟩ := h
  exact ⟨n + 1, by simp [World.drewN, World.drew, Nat.add_assoc]⟩
theorem Drew.keeps {w w' : World} (h : Drew w w') (S : Nat → Prop) : Keeps S w w' := by
  obtain ⟨n, rfl⟩ := h
  exact (Keeps.refl S w).drewN n
theorem Drew.trans {w w1 w2 : World} (h : Drew w w1) (k : Drew w1 w2) : Drew w w2 := by
  obtain ⟨n, rfl⟩ := k
  exact h.drewN n
/-- A post that the walk doesn't open. -/
theorem post_gen {P : Program} {f : FuncId} {args : Array Value} {w : World} {R : Ending → World → Prop} (h : ∀ R' : Ending → World → Prop, Hid (∀ e w', R e w' → R' e w') → Calls P f args w R') : Calls P f args w R := h R (fun _ _ x => x)
theorem hidden {p : Prop} (h : p) : Hid p := h
def byteCells (l : List UInt8) : List Value := l.map fun b => .int .u8 b.toNat
def mkS (l : List UInt8) : ByteArray := ⟨l.toArray⟩
theorem byteCells_length (l : List UInt8) : (byteCells l).length = l.length := by simp [byteCells]
theorem byteCells_append (l m : List UInt8) : byteCells (l ++ m) = byteCells l ++ byteCells m := by simp [byteCells]
theorem byteCells_str (s : ByteArray) : Lib.strCells s = byteCells s.data.toList := rfl
/-- string(b), b a row of bytes of the call's own. -/
theorem own_text {P : Program} {w : World} {base n : Nat} {e' src dst e : TypeId} {v : Value} {xs : List UInt8} (hs : P.underlying src = some (.slice e)) (he : P.underlying e = some (.int .u8)) (hd : P.underlying dst = some .string)
    (h : w.ownsRow base e' 1 v n (byteCells xs)) : (convert src dst v).run P w = .ok (.string ⟨xs.toArray⟩) w := by
  have hl : xs.length = n := by have := h.1; simp [byteCells] at this; exact this
  rcases h.2 with ⟨rfl, rfl⟩ | ⟨g, cap, cur, rfl, _⟩
  · obtain rfl : xs = [] := List.eq_nil_of_length_eq_zero hl
    exact run_convert_bytes_nil w src e hs he 0 0 dst hd
  · have k := run_convert_bytes_arg w src e hs he g 0 n cap (xs.map fun b => (b.toNat : Int)) (by simpa using hl) (fun i hi => ?_) dst hd
    · rw [k]
      congr 2
      simp only [strOfNums, List.map_map]
      congr 2
      have : ((fun n : Int => UInt8.ofNat n.toNat) ∘ fun b : UInt8 => (b.toNat : Int)) = id := by funext b; simp
      rw [this, List.map_id]
    · have hi' : i < xs.length := by omega
      have hc := h.cells (g := g) rfl i (.int .u8 (xs[i]).toNat) (by simp [byteCells, hi'])
      have ha : (⟨g, 0, none⟩ : Addr).add i = ⟨g, 0 + i, none⟩ := by unfold Addr.add; split <;> simp_all
      rw [ha] at hc
      rw [hc]
      simp [List.getD_eq_getElem?_getD, hi']
theorem ret_int {k : IntKind} {a b : Int} (h : a = b) : Ending.returned (.int k a) = .returned (.int k b) := by rw [h]
theorem ret_bool {a b : Bool} (h : a = b) : Ending.returned (.bool a) = .returned (.bool b) := by rw [h]
theorem ret_str {a b : ByteArray} (h : a = b) : Ending.returned (.string a) = .returned (.string b) := by rw [h]
theorem app_lit_end {w wr w1 : World} {F' S : Nat → Prop} {e size n n1 : Nat} {v v1 : Value} {ys xs : List Value} {o : Obj} (hR : Row wr F' e size v n xs) (hK : Keeps S w wr) (hF : Fresh S F' w) (hR1 : Row w1 (fun k => F' k ∨ (wr.alloc o).heap.size ≤ k) e size v1 n1 ys) (hK1 : Keeps (fun k => v.ownBlock = some k) (wr.alloc o) w1) :
    Row w1 (fun k => F' k ∨ wr.heap.size ≤ k) e size v1 n1 ys ∧ Keeps S w w1 ∧ Fresh S (fun k => F' k ∨ wr.heap.size ≤ k) w := by
  refine ⟨hR1.mono (fun k _ h => h.imp id (fun h => by simp at h; omega)), ?_, fun k h => ?_⟩
  · refine hK.trans (((Keeps.refl (fun k => v.ownBlock = some k) wr).alloc o).trans hK1 (fun i _ h => h)) (fun i hi h => ?_)
    rcases hF i (hR.2 i h) with x | x
    · exact x
    · omega
  · rcases h with h | h
    · exact hF k h
    · have := hK.size; exact .inr (by omega)

end Go.Proofs.Ytmefdniocgcckaa
/- What an argument that came in reads as: slices of whatever, element by element. Of no program. -/
namespace Go.Proofs.Ytmefdniocgcckaa
open Go.RowKit Go.ChangeShapes Go.WideShapes

/-- A row that is read: each element's cells say what R tells. -/
def Reads {α : Type} (sz : Nat) (R : List Value → α → Prop) (w : World) (A : Option Addr) (xs : List α) : Prop :=
  ∀ i x, xs[i]? = some x → ∃ b o cs, A = some ⟨b, o, none⟩ ∧ cs.length = sz ∧ R cs x ∧ ∀ j v, cs[j]? = some v → w.cell? ⟨b, o + i * sz + j, none⟩ = some v

section
variable {H : Type} {enc : TypeId × Value → H} {P : Program} {w : World} {base : Nat} {spare : Nat → Bool} {held : Bool}
theorem addAt (g o j : Nat) : (⟨g, o, none⟩ : Addr).add j = ⟨g, o + j, none⟩ := by unfold Addr.add; split <;> simp_all
/-- A slice that came in, opened element by element. -/
theorem open_reads {α : Type} {t e : TypeId} {sz : Nat} {R : List Value → α → Prop} {a : Option Addr} {len cap : Nat} {d : DataW H} {ps : List MemPlace} (ht : P.underlying t = some (.slice e)) (hsz : P.cellsOf e = sz) (h0 : 0 < sz)
    (hel : ∀ fuel cs y, DataW.trod enc P w base spare held fuel e cs = some y → ∃ x, R cs x) (h : DataW.Trod enc P w base spare held t (.slice a len cap) d ps) :
    ∃ xs : List α, xs.length = len ∧ Reads sz R w a xs := by
  obtain ⟨fuel, hf⟩ := h
  simp only [Value.cells] at hf
  rcases DataW.trod_slice ht hf with ⟨h1, _⟩ | ⟨ad, l, c, elems, rest, n, _, h1, _, _, _, _, hl, hel', _⟩
  · simp at h1
    obtain ⟨rfl, rfl, rfl⟩ := h1
    exact ⟨[], rfl, fun i x hi => by simp at hi⟩
  · simp at h1
    obtain ⟨rfl, rfl, rfl⟩ := h1
    subst hsz
    have raw : ∀ i, i < elems.length → ∃ x cs, cs.length = P.cellsOf e ∧ R cs x ∧ ∀ j v, cs[j]? = some v → w.cell? ((ad.add (i * P.cellsOf e)).add j) = some v := by
      intro i hi
      have h2 := hel' i (by omega)
      rw [List.getElem?_eq_getElem hi] at h2
      obtain ⟨cs, h3, h4⟩ := Option.bind_eq_some_iff.1 h2
      obtain ⟨x, hx⟩ := hel _ _ _ h4
      obtain ⟨_, h5, h6⟩ := World.cells?_some h3
      refine ⟨x, cs, h5, hx, fun j v hj => ?_⟩
      have hjl := (List.getElem?_eq_some_iff.1 hj).1
      rw [h6 j (by omega), hj]
    by_cases hn : elems.length = 0
    · exact ⟨[], by simp; omega, fun i x hi => by simp at hi⟩
    have hspot : ad.spot = none := by
      obtain ⟨_, cs, h5, _, h6⟩ := raw 0 (by omega)
      have := h6 0 _ (List.getElem?_eq_getElem (by omega))
      simp [Addr.add] at this
      exact World.cell?_spot this
    obtain ⟨b, o, sp⟩ := ad
    simp only at hspot
    subst hspot
    have key : ∀ m, m ≤ elems.length → ∃ xs : List α, xs.length = m ∧ Reads (P.cellsOf e) R w (some ⟨b, o, none⟩) xs := by
      intro m
      induction m with
      | zero => exact fun _ => ⟨[], rfl, fun i x hi => by simp at hi⟩
      | succ m ih =>
        intro hm
        obtain ⟨xs, hx, hr⟩ := ih (by omega)
        obtain ⟨x, cs, h5, h6, h7⟩ := raw m (by omega)
        refine ⟨xs ++ [x], by simp [hx], fun i y hi => ?_⟩
        rcases Nat.lt_trichotomy i xs.length with hlt | rfl | hgt
        · rw [List.getElem?_append_left hlt] at hi
          exact hr i y hi
        · simp at hi
          subst hi
          refine ⟨b, o, cs, rfl, h5, h6, fun j v hj => ?_⟩
          have := h7 j v hj
          rwa [addAt, addAt, ← hx] at this
        · rw [List.getElem?_eq_none (by simp; omega)] at hi
          cases hi
    obtain ⟨xs, h1, h2⟩ := key elems.length (Nat.le_refl _)
    exact ⟨xs, by omega, h2⟩
/-- Its length is within the reach. -/
theorem sized_reads {t e : TypeId} {a : Option Addr} {len cap : Nat} {d : DataW H} {ps : List MemPlace} {ts : List TypeId} {ds : List (DataW H)} {j : Nat} (hsz : (DataW.weightsEach P ts ds).all (· ≤ reachBytes) = true) (hj : ts[j]? = some t) (hd : ds[j]? = some d)
    (ht : P.underlying t = some (.slice e)) {B : Nat} (hB : P.bytesOf e = B) (h : DataW.Trod enc P w base spare held t (.slice a len cap) d ps) : len * B ≤ 140737488351232 := by
  obtain ⟨fuel, hf⟩ := h
  simp only [Value.cells] at hf
  rcases DataW.trod_slice ht hf with ⟨h1, _⟩ | ⟨ad, l, c, elems, rest, n, _, h1, hx, _, _, _, hl, _⟩
  · simp at h1
    obtain ⟨rfl, rfl, rfl⟩ := h1
    simp
  · simp at h1
    obtain ⟨rfl, rfl, rfl⟩ := h1
    obtain ⟨rfl, _⟩ := Prod.mk.inj hx
    have z := sized_slice hsz hj hd ht
    rw [hB] at z
    simp only [List.length_map] at z
    exact Nat.le_trans (Nat.mul_le_mul_right _ (by omega)) z
theorem wf_i64 {n : Int} (h : (Lit.int .i64 n).wf = true) : -9223372036854775808 ≤ n ∧ n ≤ 9223372036854775807 := by simp [Lit.wf, IntKind.min, IntKind.max] at h; simpa [IntKind.signed, IntKind.bits] using h
def RStr (cs : List Value) (s : ByteArray) : Prop := cs = [.string s]
theorem open_rstr {t : TypeId} (ht : P.underlying t = some .string) : ∀ fuel cs y, DataW.trod enc P w base spare held fuel t cs = some y → ∃ x, RStr cs x := fun _ _ _ h => by
  obtain ⟨s, h1, _⟩ := DataW.trod_string ht h
  exact ⟨s, h1⟩
/-- An element that is a row of texts itself. -/
def RStrs (w : World) (cs : List Value) (l : List ByteArray) : Prop := ∃ A c, cs = [.slice A l.length c] ∧ Reads 1 RStr w A l ∧ l.length ≤ 9223372036854775807 ∧ l.length ≤ c
theorem open_rstrs {t e : TypeId} (ht : P.underlying t = some (.slice e)) (he : P.underlying e = some .string) (hc : P.cellsOf e = 1) : ∀ fuel cs y, DataW.trod enc P w base spare held fuel t cs = some y → ∃ x, RStrs w cs x := fun fuel cs y h => by
  have key : ∃ A len cap, cs = [.slice A len cap] ∧ len ≤ 9223372036854775807 ∧ len ≤ cap := by
    rcases DataW.trod_slice ht h with ⟨h1, _⟩ | ⟨ad, l, c, _, _, _, _, h1, _, _, h2, h3, _⟩
    · exact ⟨_, _, _, h1, by omega, by omega⟩
    · exact ⟨_, _, _, h1, by unfold maxLen at h3; omega, h2⟩
  obtain ⟨A, len, cap, rfl, hm⟩ := key
  obtain ⟨xs, rfl, hr⟩ := open_reads (d := y.1) (ps := y.2) ht hc (by decide) (open_rstr he) ⟨fuel, h⟩
  exact ⟨xs, A, cap, rfl, hr, hm⟩
end
end Go.Proofs.Ytmefdniocgcckaa
/- Values (api.Value): their cells; value.Int, Str, Null, Check; rows of values. -/
namespace Go.Proofs.Ytmefdniocgcckaa
open Go.RowKit

/-- A value: its kind, its number, its text. -/
structure V where
  k : Int
  n : Int
  t : ByteArray
  deriving DecidableEq
def V.cells (v : V) : List Value := [.int .i64 v.k, .int .i64 v.n, .string v.t]
def V.val (v : V) : Value := .agg #[.int .i64 v.k, .int .i64 v.n, .string v.t]
def V.null : V := ⟨0, 0, ⟨#[]⟩⟩
def flat (xs : List V) : List Value := xs.flatMap V.cells
theorem flat_length (xs : List V) : (flat xs).length = xs.length * 3 := by
  induction xs with
  | nil => rfl
  | cons x xs ih => simp only [flat, List.flatMap_cons, List.length_append] at ih ⊢; rw [ih]; simp [V.cells]; omega
theorem flat_append (xs ys : List V) : flat (xs ++ ys) = flat xs ++ flat ys := by simp [flat]
theorem flat_one (xs : List V) : ∀ u ∈ flat xs, u.oneCell' = true := by
  intro u hu
  simp only [flat, List.mem_flatMap] at hu
  obtain ⟨v, _, h⟩ := hu
  simp [V.cells] at h
  rcases h with rfl | rfl | rfl <;> rfl
theorem flat_take (xs : List V) : ∀ m, (flat xs).take (m * 3) = flat (xs.take m) := by
  induction xs with
  | nil => intro m; simp [flat]
  | cons x xs ih =>
    intro m
    cases m with
    | zero => simp [flat]
    | succ m =>
      have e : flat (x :: xs) = x.cells ++ flat xs := by simp [flat]
      have e2 : flat ((x :: xs).take (m + 1)) = x.cells ++ flat (xs.take m) := by simp [flat]
      rw [e, e2, ← ih m, List.take_append, List.take_of_length_le (by simp [V.cells]; omega)]
      congr 2
      simp [V.cells]; omega
theorem flat_get (xs : List V) : ∀ (i : Nat) (x : V), xs[i]? = some x → ∀ j, j < 3 → (flat xs)[i * 3 + j]? = x.cells[j]? := by
  induction xs with
  | nil => intro i x h; simp at h
  | cons y xs ih =>
    intro i x h j hj
    have e : flat (y :: xs) = y.cells ++ flat xs := by simp [flat]
    rw [e]
    cases i with
    | zero =>
      simp at h
      subst h
      rw [List.getElem?_append_left (by simp [V.cells]; omega)]
      simp
    | succ i =>
      simp at h
      rw [List.getElem?_append_right (by simp [V.cells]; omega)]
      have := ih i x h j hj
      rw [← this]
      congr 1
      simp [V.cells]; omega
theorem info_val : (Try.prog.info? 29).map (fun i => (i.zero, i.size, i.bytes)) = some (some (.agg #[.int .i64 0, .int .i64 0, .string ⟨#[]⟩]), 3, 32) := by kernel_rfl

theorem value_Int (n : Int) (w : World) : Calls Try.prog 9 #[.int .i64 n] w fun e w' => e = .returned (V.val ⟨2, n, ⟨#[]⟩⟩) ∧ Keeps (fun _ => False) w w' := by
  refine post_gen fun R hR => ?_
  go_enter Try.func9, Try.ntmps9
  go_wp2
  exact bodyPost_ret (v := V.val ⟨2, n, ⟨#[]⟩⟩) (by simp [results, Try.results9, go_sem, V.val]) rfl (hR.out _ _ ⟨rfl, (Keeps.refl _ _).alloc _⟩)
theorem value_Str (s : ByteArray) (w : World) : Calls Try.prog 16 #[.string s] w fun e w' => e = .returned (V.val ⟨3, 0, s⟩) ∧ Keeps (fun _ => False) w w' := by
  refine post_gen fun R hR => ?_
  go_enter Try.func16, Try.ntmps16
  go_wp2
  exact bodyPost_ret (v := V.val ⟨3, 0, s⟩) (by simp [results, Try.results16, go_sem, V.val]) rfl (hR.out _ _ ⟨rfl, (Keeps.refl _ _).alloc _⟩)
theorem value_Null (w : World) : Calls Try.prog 11 #[] w fun e w' => e = .returned (V.val V.null) ∧ Keeps (fun _ => False) w w' := by
  refine post_gen fun R hR => ?_
  go_enter Try.func11, Try.ntmps11
  go_wp2
  exact bodyPost_ret (v := V.val V.null) (by simp [results, Try.results11, go_sem, V.val, V.null]) rfl (hR.out _ _ ⟨rfl, (Keeps.refl _ _).alloc _⟩)

/-- May a value be: its error. -/
def V.chk (v : V) : Int :=
  if v.k < 0 ∨ 4 < v.k then 30 else if (v.k ≠ 3 ∧ v.t.toList ≠ []) ∨ ((v.k = 0 ∨ v.k = 3) ∧ v.n ≠ 0) ∨ (v.k = 1 ∧ v.n ≠ 0 ∧ v.n ≠ 1) ∨ (v.k = 4 ∧ v.n < 0) then 5 else 0
theorem value_Check (v : V) (w : World) : Calls Try.prog 21 #[v.val] w fun e w' => e = .returned (.int .i64 v.chk) ∧ Keeps (fun _ => False) w w' := by
  obtain ⟨k, n, t⟩ := v
  unfold V.val
  refine post_gen fun R hR => ?_
  go_enter Try.func21, Try.ntmps21
  go_wp2
  all_goals
    refine hR.out _ _ ⟨show Ending.returned (.int .i64 _) = .returned (.int .i64 _) from ret_int ?_, (Keeps.refl _ _).alloc _⟩
    clear hR
    simp only [V.chk]
    first
      | (simp_all; done)
      | (rw [if_neg (by omega), if_neg (by simp_all; done)]; done)
      | (rw [if_neg (by omega), if_neg (by simp_all; omega)]; done)
      | (rw [if_neg (by omega), if_pos (by simp_all; done)]; done)
      | (rw [if_neg (by omega), if_pos (by simp_all; omega)]; done)
      | (rw [if_pos (by omega)]; done)
/-- A variable of a value's type, at block r: stored into. -/
def IsVar (w : World) (r : Nat) (v : V) : Prop := w.heap[r]? = some (.cells #[.int .i64 v.k, .int .i64 v.n, .string v.t] 29 (0, 0))
theorem IsVar.new (w : World) (v : V) : IsVar (w.alloc (.cells #[.int .i64 v.k, .int .i64 v.n, .string v.t] 29)) w.heap.size v := blk_new _ _
theorem IsVar.keeps {w w1 : World} {r : Nat} {v : V} {S : Nat → Prop} (h : IsVar w r v) (hk : Keeps S w w1) (hn : ¬ S r) : IsVar w1 r v := hk.heap h hn
theorem IsVar.cells {w : World} {r : Nat} {v : V} (h : IsVar w r v) : w.cell? ⟨r, 0, none⟩ = some (.int .i64 v.k) ∧ w.cell? ⟨r, 1, none⟩ = some (.int .i64 v.n) ∧ w.cell? ⟨r, 2, none⟩ = some (.string v.t) ∧ w.frozen? ⟨r, 0, none⟩ = false ∧ w.frozen? ⟨r, 1, none⟩ = false ∧ w.frozen? ⟨r, 2, none⟩ = false :=
  ⟨blk_cell h 0, blk_cell h 1, blk_cell h 2, blk_frozen h 0, blk_frozen h 1, blk_frozen h 2⟩
theorem IsVar.set {w : World} {r : Nat} {v : V} (h : IsVar w r v) (u : V) : IsVar (((w.setCell ⟨r, 0, none⟩ (.int .i64 u.k)).setCell ⟨r, 1, none⟩ (.int .i64 u.n)).setCell ⟨r, 2, none⟩ (.string u.t)) r u := blk_set (blk_set (blk_set h 0 _) 1 _) 2 _
theorem Keeps.var {S : Nat → Prop} {a w : World} (h : Keeps S a w) {r : Nat} (hr : r < a.heap.size → S r) (x y z : Value) : Keeps S a (((w.setCell ⟨r, 0, none⟩ x).setCell ⟨r, 1, none⟩ y).setCell ⟨r, 2, none⟩ z) :=
  ((h.setCell (p := ⟨r, 0, none⟩) hr x).setCell (p := ⟨r, 1, none⟩) hr y).setCell (p := ⟨r, 2, none⟩) hr z
end Go.Proofs.Ytmefdniocgcckaa
/- Words on memory, of no program: copy and clear on a block that is known whole, cells of any size; append of so many zero values that makes a new row. -/
namespace Go.Proofs.Ytmefdniocgcckaa
open Go.RowKit

def laid (L : List Value) (o : Nat) (cs : List Value) : Array Value := (L.take o ++ cs ++ L.drop (o + cs.length)).toArray
theorem laid_size {L : List Value} {o : Nat} {cs : List Value} (h : o + cs.length ≤ L.length) : (laid L o cs).size = L.length := by simp [laid]; omega
theorem Keeps.setRow {S : Nat → Prop} {a w : World} (h : Keeps S a w) {g : Nat} (hg : g < a.heap.size → S g) (cs : Array Value) : Keeps S a (w.setRow g cs) :=
  ⟨h.os, h.tape, h.output, Nat.le_trans h.size (by simp [World.setRow]), fun i hi hn => by
    have hne : g ≠ i := fun e => hn (by subst e; exact hg hi)
    rw [← h.block i hi hn]
    simp [World.setRow, Array.getElem?_modify, hne]⟩
section
variable {P : Program}
theorem copy_run (w : World) (dT sT ty elem : TypeId) (size g o dLen dCap : Nat) (a : Addr) (sLen sCap : Nat) (cur : Array Value) (t : TypeId) (cs : List Value)
    (hu : P.underlying dT = some (.slice elem)) (hs : (P.info? elem).map (·.size) = some size)
    (hg : w.heap[g]? = some (.cells cur t (0, 0))) (hn : cs.length = Nat.min sLen dLen * size)
    (hsrc : ∀ j v, cs[j]? = some v → w.cell? (a.add j) = some v) (hfit : o + cs.length ≤ cur.size) (h1 : ∀ v ∈ cs, v.oneCell' = true) :
    (Builtin.copy_ #[dT, sT] ty #[.slice (some ⟨g, o, none⟩) dLen dCap, .slice (some a) sLen sCap]).run P w =
      .ok (goInt (Nat.min sLen dLen)) (w.setRow g (laid cur.toList o cs)) := by
  have hl := run_loadCells_list (P := P) w a cs hsrc
  have hst := run_storeCells_at P g o t cs 0 cur w hg (by simpa using hfit) h1
  cases hq : P.info? elem with
  | none => simp [hq] at hs
  | some i =>
    have hi : i.size = size := by simpa [hq] using hs
    simp [Builtin.copy_, run_underlying hu, Builtin.lenOf, Builtin.firstCells, sizeOf, typeInfo, hq, hi, ← hn, hl, hst, laid]
variable {ops : Array Oper} {o : Oper} {a : Act} {Q : Exit → Act → World → Prop} {w : World}
theorem copy_wp {K : Act → World → Prop} (d s : Operand) (dT sT : TypeId) (ho : o.op = .call { callee := .builtin .copy, args := #[d, s], argTypes := #[dT, sT] }) (elem : TypeId) (size : Nat) (hu : P.underlying dT = some (.slice elem)) (hsz : (P.info? elem).map (·.size) = some size)
    {g go' dLen dCap : Nat} (hd : a.eval d = .slice (some ⟨g, go', none⟩) dLen dCap) {sp : Addr} {sLen sCap : Nat} (hs : a.eval s = .slice (some sp) sLen sCap)
    (off k : Nat) (hoff : go' = off) (hk : Nat.min sLen dLen = k) (cur : Array Value) (t : TypeId) (hg : w.heap[g]? = some (.cells cur t (0, 0))) (cs : List Value) (hn : cs.length = k * size)
    (hsrc : ∀ j v, cs[j]? = some v → w.cell? (sp.add j) = some v) (hfit : off + cs.length ≤ cur.size) (h1 : ∀ v ∈ cs, v.oneCell' = true)
    (h : ∀ w1, w1.heap[g]? = some (.cells (laid cur.toList off cs) t (0, 0)) → Keeps (fun j => j = g) w w1 → K (a.put o.dst (goInt k)) w1) : o.wp P a w K Q := by
  subst hoff hk
  have hrun := copy_run (P := P) w dT sT o.type elem size g go' dLen dCap sp sLen sCap cur t cs hu hsz hg hn hsrc hfit h1
  unfold Oper.wp
  simp [execOp, ho, resolve, invoke, builtin, hd, hs, hrun, Result.andThen]
  exact h _ (setRow_heap w g cur _ t _ hg) (Keeps.setRow (S := fun j => j = g) (Keeps.refl _ w) (fun _ => rfl) _)
theorem copy_list {rest : List Oper} (hgd : o.guard = none) (d s : Operand) (dT sT : TypeId) (ho : o.op = .call { callee := .builtin .copy, args := #[d, s], argTypes := #[dT, sT] }) (elem : TypeId) (size : Nat) (hu : P.underlying dT = some (.slice elem)) (hsz : (P.info? elem).map (·.size) = some size)
    {g go' dLen dCap : Nat} (hd : a.eval d = .slice (some ⟨g, go', none⟩) dLen dCap) {sp : Addr} {sLen sCap : Nat} (hs : a.eval s = .slice (some sp) sLen sCap)
    (off k : Nat) (hoff : go' = off) (hk : Nat.min sLen dLen = k) (cur : Array Value) (t : TypeId) (hg : w.heap[g]? = some (.cells cur t (0, 0))) (cs : List Value) (hn : cs.length = k * size)
    (hsrc : ∀ j v, cs[j]? = some v → w.cell? (sp.add j) = some v) (hfit : off + cs.length ≤ cur.size) (h1 : ∀ v ∈ cs, v.oneCell' = true)
    (h : ∀ w1, w1.heap[g]? = some (.cells (laid cur.toList off cs) t (0, 0)) → Keeps (fun j => j = g) w w1 → wpList P ops Q rest (a.put o.dst (goInt k)) w1) : wpList P ops Q (o :: rest) a w :=
  wpList_plain hgd fun _ hK => copy_wp d s dT sT ho elem size hu hsz hd hs off k hoff hk cur t hg cs hn hsrc hfit h1 fun w1 h1 h2 => hK _ _ (h w1 h1 h2)
theorem copy_step {K : Act → World → Prop} {E : Prop} (hgd : o.guard = none) (d s : Operand) (dT sT : TypeId) (ho : o.op = .call { callee := .builtin .copy, args := #[d, s], argTypes := #[dT, sT] }) (elem : TypeId) (size : Nat) (hu : P.underlying dT = some (.slice elem)) (hsz : (P.info? elem).map (·.size) = some size)
    {g go' dLen dCap : Nat} (hd : a.eval d = .slice (some ⟨g, go', none⟩) dLen dCap) {sp : Addr} {sLen sCap : Nat} (hs : a.eval s = .slice (some sp) sLen sCap)
    (off k : Nat) (hoff : go' = off) (hk : Nat.min sLen dLen = k) (cur : Array Value) (t : TypeId) (hg : w.heap[g]? = some (.cells cur t (0, 0))) (cs : List Value) (hn : cs.length = k * size)
    (hsrc : ∀ j v, cs[j]? = some v → w.cell? (sp.add j) = some v) (hfit : off + cs.length ≤ cur.size) (h1 : ∀ v ∈ cs, v.oneCell' = true)
    (h : ∀ w1, w1.heap[g]? = some (.cells (laid cur.toList off cs) t (0, 0)) → Keeps (fun j => j = g) w w1 → K (a.put o.dst (goInt k)) w1) :
    if Region.wanted o (yielded ops a.tmps) = true then Oper.wp P o a w K Q else E := by
  have hw : Region.wanted o (yielded ops a.tmps) = true := by simp [Region.wanted, hgd]
  rw [if_pos hw]
  exact copy_wp d s dT sT ho elem size hu hsz hd hs off k hoff hk cur t hg cs hn hsrc hfit h1 h
/-- append where there is room, onto a row that lies in a block that is known whole; the source may lie in it too. -/
theorem room_wp {K : Act → World → Prop} (s x : Operand) (t tx e : TypeId) (z : Value) (size bytes : Nat) (ho : o.op = .call { callee := .builtin .append, args := #[s, x], argTypes := #[t, tx] })
    (ht : P.underlying t = some (.slice e)) (hinfo : (P.info? e).map (fun i => (i.zero, i.size, i.bytes)) = some (some z, size, bytes)) {g i' c : Nat} (hs : a.eval s = .slice (some ⟨g, 0, none⟩) i' c) (xv : Value) (hx : a.eval x = xv)
    (n m : Nat) (hi' : i' = n) (cur : Array Value) (hg : w.heap[g]? = some (.cells cur e (0, 0))) (news : List Value) (hsrc : Src P size tx xv m news w) (hroom : n + m ≤ c) (hfit : n * size + news.length ≤ cur.size)
    (h : ∀ w1, w1.heap[g]? = some (.cells (laid cur.toList (n * size) news) e (0, 0)) → Keeps (fun j => j = g) w w1 → K (a.put o.dst (.slice (some ⟨g, 0, none⟩) (n + m) c)) w1) : o.wp P a w K Q := by
  subst hi'
  obtain ⟨i, hi, hz, hsize, hby⟩ := info_parts hinfo
  subst hsize hby
  have hrun : (Builtin.append_ #[t, tx] o.type #[.slice (some ⟨g, 0, none⟩) i' c, xv]).run P w = .ok (.slice (some ⟨g, 0, none⟩) (i' + m) c) (w.setRow g (laid cur.toList (i' * i.size) news)) := by
    have hst := run_storeCells_at P g (i' * i.size) e news 0 cur w hg (by simpa using hfit) hsrc.one
    simp only [Nat.add_zero] at hst
    rcases hsrc.kind with ⟨e', hk⟩ | hk <;> simp [Builtin.append_, run_underlying ht, run_underlying hk, sizeOf, typeInfo, hi, hsrc.len, hroom, hsrc.cells, Addr.add_lit, hst, laid]
  unfold Oper.wp execOp
  simp only [ho, resolve, invoke, builtin, Sem.run_bind, Sem.run_pure, Result.andThen_ok, List.map_toArray, List.map_cons, List.map_nil, hs, hx, hrun]
  exact h _ (setRow_heap w g cur _ e _ hg) (Keeps.setRow (S := fun j => j = g) (Keeps.refl _ w) (fun _ => rfl) _)
theorem room_step {K : Act → World → Prop} {E : Prop} (hgd : o.guard = none) (s x : Operand) (t tx e : TypeId) (z : Value) (size bytes : Nat) (ho : o.op = .call { callee := .builtin .append, args := #[s, x], argTypes := #[t, tx] })
    (ht : P.underlying t = some (.slice e)) (hinfo : (P.info? e).map (fun i => (i.zero, i.size, i.bytes)) = some (some z, size, bytes)) {g i' c : Nat} (hs : a.eval s = .slice (some ⟨g, 0, none⟩) i' c) (xv : Value) (hx : a.eval x = xv)
    (n m : Nat) (hi' : i' = n) (cur : Array Value) (hg : w.heap[g]? = some (.cells cur e (0, 0))) (news : List Value) (hsrc : Src P size tx xv m news w) (hroom : n + m ≤ c) (hfit : n * size + news.length ≤ cur.size)
    (h : ∀ w1, w1.heap[g]? = some (.cells (laid cur.toList (n * size) news) e (0, 0)) → Keeps (fun j => j = g) w w1 → K (a.put o.dst (.slice (some ⟨g, 0, none⟩) (n + m) c)) w1) :
    if Region.wanted o (yielded ops a.tmps) = true then Oper.wp P o a w K Q else E := by
  have hw : Region.wanted o (yielded ops a.tmps) = true := by simp [Region.wanted, hgd]
  rw [if_pos hw]
  exact room_wp s x t tx e z size bytes ho ht hinfo hs xv hx n m hi' cur hg news hsrc hroom hfit h
/-- clear(s), s a row that lies in a block that is known whole. -/
theorem clear_list {rest : List Oper} (hgd : o.guard = none) (s : Operand) (t e : TypeId) (ho : o.op = .call { callee := .builtin .clear, args := #[s], argTypes := #[t] }) (z : Value) (size bytes : Nat) (hu : P.underlying t = some (.slice e))
    (hinfo : (P.info? e).map (fun i => (i.zero, i.size, i.bytes)) = some (some z, size, bytes)) (hzs : z.cells.size = size) (hz1 : ∀ v ∈ z.cells, v.oneCell' = true) {g go' n c : Nat} (hs : a.eval s = .slice (some ⟨g, go', none⟩) n c)
    (off k : Nat) (hoff : go' = off) (hk : n = k) (h0 : 0 < k) (cur : Array Value) (te : TypeId) (hg : w.heap[g]? = some (.cells cur te (0, 0))) (hfit : off + k * size ≤ cur.size)
    (h : ∀ w1, w1.heap[g]? = some (.cells (laid cur.toList off (Builtin.zeroCells z.cells k).toList) te (0, 0)) → Keeps (fun j => j = g) w w1 → wpList P ops Q rest (a.put o.dst (.tuple #[])) w1) : wpList P ops Q (o :: rest) a w := by
  subst hoff hk
  obtain ⟨i, hi, hz, hsize, hby⟩ := info_parts hinfo
  have hlen : (Builtin.zeroCells z.cells n).toList.length = n * size := by simp [Builtin.zeroCells, hzs]
  have hone : ∀ v ∈ (Builtin.zeroCells z.cells n).toList, v.oneCell' = true := by
    intro v hv
    simp only [Builtin.zeroCells, Array.toList_map, List.mem_map] at hv
    obtain ⟨j, hj, rfl⟩ := hv
    simp at hj
    have hpos : 0 < z.cells.size := Nat.pos_of_ne_zero (fun e => by simp [e] at hj)
    have : j % z.cells.size < z.cells.size := Nat.mod_lt _ hpos
    rw [getElem!_pos z.cells _ this]
    exact hz1 _ (Array.getElem_mem this)
  have hst := run_storeCells_at P g go' te (Builtin.zeroCells z.cells n).toList 0 cur w hg (by rw [hlen]; simpa using hfit) hone
  obtain ⟨n', rfl⟩ : ∃ n', n = n' + 1 := ⟨n - 1, by omega⟩
  refine wpList_plain hgd fun K hK => ?_
  unfold Oper.wp
  simp [execOp, ho, resolve, invoke, builtin, hs, Builtin.clear_, run_underlying hu, zeroValue, typeInfo, hi, hz, hst, Result.andThen]
  refine hK _ _ (h _ ?_ ?_)
  · have := setRow_heap w g cur (laid cur.toList go' (Builtin.zeroCells z.cells (n' + 1)).toList) te _ hg
    simpa [laid] using this
  · exact Keeps.setRow (S := fun j => j = g) (Keeps.refl _ w) (fun _ => rfl) _
/-- append(s[:i], make(T, k)...) that makes a new row. -/
theorem appz_list {rest : List Oper} (hgd : o.guard = none) (s x : Operand) (t tn e : TypeId) (kn : IntKind) (z : Value) (size bytes : Nat) (ho : o.op = .call { callee := .builtin .append, args := #[s, x], argTypes := #[t, tn] })
    (ht : P.underlying t = some (.slice e)) (htn : P.underlying tn = some (.int kn)) (hinfo : (P.info? e).map (fun i => (i.zero, i.size, i.bytes)) = some (some z, size, bytes)) (hzs : z.cells.size = size) (hsz : 0 < size)
    {g i' c : Nat} (hs : a.eval s = .slice (some ⟨g, 0, none⟩) i' c) {kq : IntKind} {k' : Int} (hx : a.eval x = .int kq k') (i k m : Nat) (hi' : i' = i) (hk' : k' = k) (hm' : i + k = m)
    (cur : Array Value) (te : TypeId) (hg : w.heap[g]? = some (.cells cur te (0, 0))) (hfit : i * size ≤ cur.size) (h0 : 0 < k) (hroom : c < m) (hb0 : m ≤ 9223372036854775807) (hbytes : m * bytes ≤ 140737488355328)
    (h : ∀ c' cur' w1, m ≤ c' → c' ≤ maxLen → w1.heap[w.heap.size]? = some (.cells cur' e (0, 0)) → cur'.size = c' * size → cur'.toList.take (i * size) = cur.toList.take (i * size) → Keeps (fun _ => False) w w1 → wpList P ops Q rest (a.put o.dst (.slice (some ⟨w.heap.size, 0, none⟩) m c')) w1) : wpList P ops Q (o :: rest) a w := by
  subst hi' hk' hm'
  obtain ⟨ti, hti, hz, hsize, hby⟩ := info_parts hinfo
  subst hsize hby
  have hlen : (cur.toList.take (i' * ti.size)).length = i' * ti.size := by rw [List.length_take]; exact Nat.min_eq_left (by simpa using hfit)
  have hold : (Builtin.firstCells ti.size i' (.slice (some ⟨g, 0, none⟩) i' c)).run P w.drew = .ok (cur.toList.take (i' * ti.size)).toArray w.drew := by
    refine run_firstCells_some w.drew ti.size i' ⟨g, 0, none⟩ i' c _ hlen (fun j v hj => ?_)
    have hadd : (⟨g, 0, none⟩ : Addr).add j = ⟨g, j, none⟩ := by unfold Addr.add; split <;> simp_all
    rw [hadd, blk_cell (w := w.drew) hg]
    rw [List.getElem?_take] at hj
    split at hj
    · simpa using hj
    · simp at hj
  have hge := grownCap_ge w (i' + k) c e
  have hrun := Lib.run_append_grow_zeros (P := P) w t tn o.type e ti z kq kn ht htn hti hz (some ⟨g, 0, none⟩) i' c _ hold k h0 hsz (by omega) (by omega) (by have : k * ti.bytes ≤ (i' + k) * ti.bytes := Nat.mul_le_mul_right _ (by omega); omega) (growslice_fits (by omega) hbytes)
  refine wpList_plain hgd fun K hK => ?_
  unfold Oper.wp execOp
  simp only [ho, resolve, invoke, builtin, Sem.run_bind, Sem.run_pure, Result.andThen_ok, List.map_toArray, List.map_cons, List.map_nil, hs, hx, hrun]
  refine hK _ _ (h _ _ _ hge (grownCap_le_maxLen w (i' + k) c e (by unfold maxLen; omega)) (heap_alloc_new w.drew _) ?_ ?_ ((Keeps.refl _ w).drew.alloc _))
  · simp only [Array.size_append, List.size_toArray, size_zeroCells, hzs, hlen]
    rw [← Nat.add_mul, ← Nat.add_mul]
    congr 1
    omega
  · simp only [Array.toList_append, List.append_assoc]
    have := List.take_left (l₁ := cur.toList.take (i' * ti.size)) (l₂ := (Builtin.zeroCells z.cells k).toList ++ (Builtin.zeroCells z.cells (grownCap w (i' + k) c e - (i' + k))).toList)
    rwa [hlen] at this
end
theorem Row.ofBlk {w : World} {F : Nat → Prop} {e size g n c : Nat} {cur : Array Value} {xs : List Value} (hg : w.heap[g]? = some (.cells cur e (0, 0))) (hF : F g) (hn : n ≤ c) (hc : c ≤ maxLen) (hs : cur.size = c * size) (hx : cur.toList.take (n * size) = xs) :
    Row w F e size (.slice (some ⟨g, 0, none⟩) n c) n xs := by
  refine ⟨⟨?_, .inr ⟨g, c, cur, rfl, Nat.zero_le _, hg, hn, hc, hs, hx⟩⟩, fun k hk => by simp [Value.ownBlock] at hk; exact hk ▸ hF⟩
  rw [← hx, List.length_take]
  exact Nat.min_eq_left (by simp [hs]; exact Nat.mul_le_mul_right _ hn)
theorem Row.blk {w : World} {F : Nat → Prop} {e size n c : Nat} {A : Option Addr} {xs : List Value} (h : Row w F e size (.slice A n c) n xs) (h0 : 0 < n) : ∃ g cur, A = some ⟨g, 0, none⟩ ∧ F g ∧ w.heap[g]? = some (.cells cur e (0, 0)) ∧ n ≤ c ∧ c ≤ maxLen ∧ cur.size = c * size ∧ cur.toList.take (n * size) = xs := by
  rcases h.1.2 with ⟨h1, rfl⟩ | ⟨g, cap, cur, h1, _, hg, hc, hm, hs, ht⟩
  · omega
  · simp at h1
    obtain ⟨rfl, rfl⟩ := h1
    exact ⟨g, cur, rfl, h.2 g rfl, hg, hc, hm, hs, ht⟩
end Go.Proofs.Ytmefdniocgcckaa
/- Rows of values that are read; value.Cells. -/
namespace Go.Proofs.Ytmefdniocgcckaa
open Go.RowKit

/-- Values that stand in a row that is read. -/
def Vals (w : World) (A : Option Addr) (xs : List V) : Prop := ∀ i x, xs[i]? = some x → ∃ b o, A = some ⟨b, o, none⟩ ∧ w.cell? ⟨b, o + i * 3, none⟩ = some (.int .i64 x.k) ∧ w.cell? ⟨b, o + i * 3 + 1, none⟩ = some (.int .i64 x.n) ∧ w.cell? ⟨b, o + i * 3 + 2, none⟩ = some (.string x.t)
theorem Vals.nil (w : World) (A : Option Addr) : Vals w A [] := fun i x h => by simp at h
theorem Vals.keeps {w w1 : World} {S : Nat → Prop} {A : Option Addr} {xs : List V} (h : Vals w A xs) (hk : Keeps S w w1) (hn : 0 < xs.length → ∀ b o, A = some ⟨b, o, none⟩ → ¬ S b) : Vals w1 A xs := fun i x hi => by
  obtain ⟨b, o, rfl, h1, h2, h3⟩ := h i x hi
  have hb := hn (by have := (List.getElem?_eq_some_iff.1 hi).1; omega) b o rfl
  exact ⟨b, o, rfl, hk.cell h1 hb, hk.cell h2 hb, hk.cell h3 hb⟩
theorem Vals.lt {w : World} {A : Option Addr} {xs : List V} (h : Vals w A xs) : 0 < xs.length → ∀ b o, A = some ⟨b, o, none⟩ → b < w.heap.size := by
  intro h0 b o hA
  obtain ⟨b', o', he, hc, _⟩ := h 0 _ (List.getElem?_eq_getElem h0)
  rw [hA] at he
  simp at he
  obtain ⟨rfl, rfl⟩ := he
  exact World.block_lt_of_cell? w _ hc
theorem Vals.below {w w1 : World} {A : Option Addr} {xs : List V} (h : Vals w A xs) (hb : Below w.heap.size w w1) : Vals w1 A xs :=
  h.keeps (Keeps.of_below hb) (fun h0 b o hA hS => by have := h.lt h0 b o hA; omega)
theorem add_at3 (g o j : Nat) : (⟨g, o, none⟩ : Addr).add j = ⟨g, o + j, none⟩ := by unfold Addr.add; split <;> simp_all
theorem flat_at {xs : List V} {j : Nat} {u : Value} (h : (flat xs)[j]? = some u) : ∃ x, xs[j / 3]? = some x ∧ x.cells[j % 3]? = some u := by
  have hl := (List.getElem?_eq_some_iff.1 h).1
  rw [flat_length] at hl
  have hi : j / 3 < xs.length := by omega
  refine ⟨xs[j / 3], List.getElem?_eq_getElem hi, ?_⟩
  have := flat_get xs (j / 3) _ (List.getElem?_eq_getElem hi) (j % 3) (by omega)
  rw [← this, ← h]
  congr 1
  omega
theorem Vals.src {P : Program} {w : World} {A : Option Addr} {xs : List V} {c : Nat} {tx e : TypeId} (h : Vals w A xs) (hk : P.underlying tx = some (.slice e)) : Src P 3 tx (.slice A xs.length c) xs.length (flat xs) w := by
  cases hs : xs with
  | nil =>
    cases A with
    | none => exact Src.ofNil w hk c
    | some a => exact Src.ofSlice w hk a 0 c [] rfl (by simp) (by simp)
  | cons s l =>
    obtain ⟨b, o, rfl, _⟩ := h 0 s (by simp [hs])
    rw [← hs]
    refine Src.ofSlice w hk _ _ c _ (flat_length xs) ?_ (flat_one xs)
    intro j u hu
    obtain ⟨x, h1, h2⟩ := flat_at hu
    obtain ⟨b', o', he, hc1, hc2, hc3⟩ := h _ x h1
    simp at he
    obtain ⟨rfl, rfl⟩ := he
    rw [add_at3]
    have hj : j % 3 = 0 ∨ j % 3 = 1 ∨ j % 3 = 2 := by omega
    rcases hj with hj | hj | hj <;> rw [hj] at h2 <;> simp [V.cells] at h2 <;> subst h2
    · rw [show o + j = o + j / 3 * 3 by omega]; exact hc1
    · rw [show o + j = o + j / 3 * 3 + 1 by omega]; exact hc2
    · rw [show o + j = o + j / 3 * 3 + 2 by omega]; exact hc3
theorem Vals.own {w : World} {base e n c : Nat} {A : Option Addr} {xs : List V} (h : w.ownsRow base e 3 (.slice A n c) n (flat xs)) : Vals w A xs := fun i x hi => by
  have hil := (List.getElem?_eq_some_iff.1 hi).1
  rcases h.2 with ⟨h1, h2⟩ | ⟨g, cap, cur, h1, _⟩
  · have := h.1
    rw [flat_length] at this
    omega
  · simp at h1
    obtain ⟨rfl, rfl⟩ := h1
    have hc := h.cells (g := g) rfl
    refine ⟨g, 0, rfl, ?_, ?_, ?_⟩
    · have := hc (i * 3 + 0) _ ((flat_get xs i x hi 0 (by omega)).trans rfl)
      rwa [add_at3] at this
    · have := hc (i * 3 + 1) _ ((flat_get xs i x hi 1 (by omega)).trans rfl)
      rwa [add_at3, ← Nat.add_assoc] at this
    · have := hc (i * 3 + 2) _ ((flat_get xs i x hi 2 (by omega)).trans rfl)
      rwa [add_at3, ← Nat.add_assoc] at this
theorem Vals.lit (w : World) (xs : List V) (t : TypeId) {n : Nat} (hn : n = w.heap.size) : Vals (w.alloc (.cells (flat xs).toArray t)) (some ⟨n, 0, none⟩) xs := fun i x hi => by
  subst hn
  refine ⟨_, _, rfl, ?_, ?_, ?_⟩
  · rw [blk_cell (blk_new w _)]; simpa [V.cells] using flat_get xs i x hi 0 (by omega)
  · rw [blk_cell (blk_new w _)]; simpa [V.cells] using flat_get xs i x hi 1 (by omega)
  · rw [blk_cell (blk_new w _)]; simpa [V.cells] using flat_get xs i x hi 2 (by omega)

/-- The cells among values, in order. -/
def cellNums (xs : List V) : List Int := (xs.filter fun x => x.k == 4).map (·.n)
def intCells (l : List Int) : List Value := l.map (.int .i64)
theorem info_int : (Try.prog.info? 3).map (fun i => (i.zero, i.size, i.bytes)) = some (some (.int .i64 0), 1, 8) := by kernel_rfl
theorem int_lit (w : World) (n : Int) {m : Nat} (hm : m = w.heap.size) : Src Try.prog 1 64 (.slice (some ⟨m, 0, none⟩) 1 1) 1 [.int .i64 n] (w.alloc (.cells #[.int .i64 n] 3)) :=
  hm ▸ Src.ofSlice _ Try.underlying64 _ _ 1 _ rfl (fun j u hj => by
    rw [add_at3, blk_cell (blk_new w _)]
    cases j with
    | zero => simpa using hj
    | succ j => simp at hj) (fun u hu => by simp at hu; subst hu; rfl)
theorem cellNums_succ {xs : List V} {k : Nat} (hk : k < xs.length) : cellNums (xs.take (k + 1)) = cellNums (xs.take k) ++ (if xs[k].k = 4 then [xs[k].n] else []) := by
  rw [List.take_add_one, List.getElem?_eq_getElem hk]
  simp only [cellNums, List.filter_append, List.map_append, Option.toList_some]
  congr 1
  by_cases h : xs[k].k = 4 <;> simp [h]
theorem cellNums_length (xs : List V) : (cellNums xs).length ≤ xs.length := by simp only [cellNums, List.length_map]; exact List.length_filter_le _ _

end Go.Proofs.Ytmefdniocgcckaa
/- Layer 4: lists (list.List): contracts. -/
namespace Go.Proofs.Ytmefdniocgcckaa
open Go.RowKit

/-- A list, at block b, its row told. -/
structure IsListAt (w : World) (F : Nat → Prop) (b : Nat) (v : Value) (xs : List V) : Prop where
  blk : w.heap[b]? = some (.cells #[v] 114 (0, 0))
  here : F b
  row : Row w F 29 3 v xs.length (flat xs)
  inw : In F w
def IsList (w : World) (F : Nat → Prop) (b : Nat) (xs : List V) : Prop := ∃ v, IsListAt w F b v xs
theorem IsList.inw {w : World} {F : Nat → Prop} {b : Nat} {xs : List V} (h : IsList w F b xs) : In F w := by obtain ⟨_, h⟩ := h; exact h.inw
theorem IsList.keeps {w w1 : World} {F S : Nat → Prop} {b : Nat} {xs : List V} (h : IsList w F b xs) (hk : Keeps S w w1) (hn : Apart F S) : IsList w1 F b xs := by
  obtain ⟨v, h⟩ := h
  exact ⟨v, hk.heap h.blk (hn _ h.here), h.here, h.row.keeps hk hn, h.inw.keeps hk⟩
theorem IsList.none {w w1 : World} {F : Nat → Prop} {b : Nat} {xs : List V} (h : IsList w F b xs) (hk : Keeps (fun _ => False) w w1) : IsList w1 F b xs := h.keeps hk (Apart.no _)
theorem IsListAt.put {wr w1 w2 : World} {F : Nat → Prop} {b m n : Nat} {v v1 : Value} {xs ys : List V} {cs : List Value} (h : IsListAt wr F b v xs) (hn : n = ys.length) (hc : cs = flat ys)
    (hR : Row w1 (fun k => F k ∨ wr.heap.size ≤ k) 29 3 v1 n cs) (hk : Keeps (fun k => v.ownBlock = some k) (wr.drewN m) w1) (h2 : SameBut b w1 w2) (hb : w2.heap[b]? = some (.cells #[v1] 114 (0, 0))) :
    ∃ F2, IsListAt w2 F2 b v1 ys ∧ Keeps F wr w2 ∧ Fresh F F2 wr := by
  subst hn hc
  have hne : ∀ k, v1.ownBlock = some k → k ≠ b := hR.ne (hk.heap (k := b) h.blk (fun e => h.row.ne h.blk (by decide) b e rfl)) (by decide)
  obtain ⟨F2, h3, h4, h5, h6, h7⟩ := upd_end h.inw h.here h.row hR hk hne h2
  exact ⟨F2, ⟨hb, h4, h3, h5⟩, h6, h7⟩

theorem slices_Clone (w : World) (A : Option Addr) (c : Nat) (xs : List V) (h : Vals w A xs) (hl : xs.length * 32 ≤ 140737488355328) (hnil : A = none → xs = []) :
    Calls Try.prog 28 #[.slice A xs.length c] w fun e w' => ∃ A' c' F, e = .returned (.slice A' xs.length c') ∧ Row w' F 29 3 (.slice A' xs.length c') xs.length (flat xs) ∧ In F w' ∧ Keeps (fun _ => False) w w' ∧ Fresh (fun _ => False) F w := by
  have H := hidden h
  clear h
  refine post_gen fun R hR => ?_
  cases A with
  | none =>
    obtain rfl := hnil rfl
    have hrun := fun W => Lib.run_eql_slice_nil (P := Try.prog) W 35 29 none 0 c 0 0 Try.underlying35
    go_enter Try.func28, Try.ntmps28
    go_wp2
    exact hR.out _ _ ⟨_, _, fun _ => False, rfl, Row.nil _ _ _ _, fun _ h => h.elim, Keeps.refl _ _, fun _ h => h.elim⟩
  | some a =>
    have hrun := fun W => Lib.run_eql_slice_nil (P := Try.prog) W 35 29 (some a) xs.length c 0 0 Try.underlying35
    go_enter Try.func28, Try.ntmps28
    go_wp2_with (at_builtin; refine app_list rfl (fun k => k = w.heap.size) _ _ _ _ _ _ 3 32 rfl Try.underlying35 info_val rfl (by decide) (.slice (some ⟨w.heap.size, 0, none⟩) 0 0) _ _ rfl (Row.made0 w _ 3) _ rfl _ _ ((H.out.below ((Below.refl _ w).alloc (Nat.le_refl _) _)).src Try.underlying35) (by omega) (by omega) ?_; intro A2 c2 w1 hR2 hK2; have HR2 := hidden hR2; have HK2 := hidden hK2; clear hR2 hK2)
    have g1 := HR2.out
    simp only [Nat.zero_add, List.nil_append] at g1
    have g2 := HK2.out.size
    simp at g2
    have hK : Keeps (fun _ => False) w w1 := ((Keeps.refl (fun _ => False) w).alloc _).trans HK2.out (fun i hi h => by simp [Value.ownBlock] at h; omega)
    refine hR.out _ _ ⟨A2, c2, fun k => w.heap.size ≤ k ∧ k < w1.heap.size, by simp, ⟨g1.1, fun k hk => ⟨?_, g1.lt k hk⟩⟩, fun k hk => hk.2, hK, fun k hk => .inr hk.1⟩
    have := g1.2 k hk
    simp at this
    omega

theorem own_none {w : World} {base e size n c : Nat} {A : Option Addr} {xs : List Value} (h : w.ownsRow base e size (.slice A n c) n xs) : A = none → n = 0 := by
  rintro rfl
  rcases h.2 with ⟨_, h⟩ | ⟨g, cap, cur, h1, _⟩
  · exact h
  · simp at h1
theorem list_place (w : World) (F : Nat → Prop) (b : Nat) (xs : List V) (at' : Int) (h : IsList w F b xs) :
    Calls Try.prog 75 #[.pointer (some ⟨b, 0, none⟩), .int .i64 at'] w fun e w' => e = .returned (.int .i64 (if at' < 0 ∨ (xs.length : Int) ≤ at' then -1 else at')) ∧ w = w' := by
  obtain ⟨v, h⟩ := h
  obtain ⟨A, c, rfl⟩ := h.row.form
  have c0 : w.cell? ⟨b, 0, none⟩ = some (.slice A xs.length c) := blk_cell h.blk 0
  clear h
  refine post_gen fun R hR => ?_
  by_cases h1 : at' < 0
  · go_enter Try.func75, Try.ntmps75
    go_wp2
    exact hR.out _ _ ⟨by rw [if_pos (.inl h1)]; try rfl, rfl⟩
  by_cases h2 : (xs.length : Int) ≤ at'
  · go_enter Try.func75, Try.ntmps75
    go_wp2
    exact hR.out _ _ ⟨by rw [if_pos (.inr h2)]; try rfl, rfl⟩
  · go_enter Try.func75, Try.ntmps75
    go_wp2
    exact hR.out _ _ ⟨by rw [if_neg (by omega)]; try rfl, rfl⟩

theorem list_Get_none (w : World) (F : Nat → Prop) (b : Nat) (xs : List V) (at' : Int) (h : IsList w F b xs) (hat : at' < 0 ∨ (xs.length : Int) ≤ at') :
    Calls Try.prog 65 #[.pointer (some ⟨b, 0, none⟩), .int .i64 at'] w fun e w' => e = .returned (.tuple #[V.val V.null, .int .i64 1]) ∧ Keeps (fun _ => False) w w' := by
  have key := hidden (fun W (h : IsList W F b xs) => list_place W F b xs at' h)
  have H := hidden h
  rw [if_pos hat] at key
  clear h hat
  refine post_gen fun R hR => ?_
  go_enter Try.func65, Try.ntmps65
  go_wp2_with fail
  refine (key.out _ (H.out.none ((Keeps.refl _ _).alloc _))).mono ?_
  rintro e _ ⟨rfl, rfl⟩
  go_wp2_with fail
  refine (value_Null _).mono ?_
  rintro e w1 ⟨rfl, hK⟩
  have HV := hidden ((IsVar.new w V.null).keeps hK (fun h => h))
  obtain ⟨c0, c1, c2, f0, f1, f2⟩ := HV.out.cells
  simp only [V.null] at c0 c1 c2
  unfold V.val V.null
  go_wp2
  obtain ⟨d0, d1, d2, _⟩ := (HV.out.set V.null).cells
  simp only [V.null] at d0 d1 d2
  exact bodyPost_ret (v := .tuple #[V.val V.null, .int .i64 1]) (by simp [results, Try.results65, go_sem, d0, d1, d2, V.val, V.null]) rfl (hR.out _ _ ⟨rfl, (((Keeps.refl _ w).alloc _).trans hK (fun _ _ h => h)).var (fun h => by omega) _ _ _⟩)

theorem list_Get_some (w : World) (F : Nat → Prop) (b : Nat) (xs : List V) (i : Nat) (x : V) (h : IsList w F b xs) (hx : xs[i]? = some x) :
    Calls Try.prog 65 #[.pointer (some ⟨b, 0, none⟩), .int .i64 i] w fun e w' => e = .returned (.tuple #[V.val x, .int .i64 0]) ∧ Keeps (fun _ => False) w w' := by
  have hi := (List.getElem?_eq_some_iff.1 hx).1
  have key := hidden (fun W (h : IsList W F b xs) => list_place W F b xs i h)
  rw [if_neg (by omega)] at key
  have H := hidden h
  obtain ⟨v, hL⟩ := h.none ((Keeps.refl _ w).alloc (.cells #[.int .i64 0, .int .i64 0, .string ⟨#[]⟩] 29))
  obtain ⟨A, c, rfl⟩ := hL.row.form
  obtain ⟨rb, ro, rfl, h0, h1, h2⟩ := Vals.own hL.row.1 i x hx
  have l0 := blk_cell hL.blk 0
  simp only [List.getElem?_toArray, List.getElem?_cons_zero] at l0
  have HV := hidden (IsVar.new w V.null)
  obtain ⟨c0, c1, c2, f0, f1, f2⟩ := HV.out.cells
  simp only [V.null] at c0 c1 c2 f0 f1 f2
  have hneg : ¬ ((i : Int) < 0) := by omega
  have HX := hidden hx
  clear h hx hL
  refine post_gen fun R hR => ?_
  go_enter Try.func65, Try.ntmps65
  go_wp2_with fail
  refine (key.out _ (H.out.none ((Keeps.refl _ _).alloc _))).mono ?_
  rintro e _ ⟨rfl, rfl⟩
  go_wp2
  exact bodyPost_ret (v := .tuple #[V.val x, .int .i64 0]) (by simp [results, Try.results65, go_sem, V.val]) rfl (hR.out _ _ ⟨rfl, (Keeps.refl _ w).alloc _⟩)

end Go.Proofs.Ytmefdniocgcckaa
/- Layer 4: lists, what turns them: contracts. -/
namespace Go.Proofs.Ytmefdniocgcckaa
open Go.RowKit
set_option linter.unusedVariables false

theorem IsListAt.turn {w : World} {F : Nat → Prop} {b n : Nat} {v v1 : Value} {xs ys : List V} {cs : List Value} (h : IsListAt w F b v xs) (hn : n = ys.length) (hc : cs = flat ys) (hR : Row w F 29 3 v1 n cs) :
    IsListAt (w.setCell ⟨b, 0, none⟩ v1) F b v1 ys ∧ Keeps F w (w.setCell ⟨b, 0, none⟩ v1) := by
  subst hn hc
  have hk : Keeps F w (w.setCell ⟨b, 0, none⟩ v1) := (Keeps.refl F w).setCell (fun _ => h.here) _
  exact ⟨⟨blk_set h.blk 0 v1, h.here, hR.set (hR.ne h.blk (by decide)) _, h.inw.keeps hk⟩, hk⟩
theorem IsList.at {w : World} {F : Nat → Prop} {b : Nat} {v : Value} {xs : List V} (h : IsListAt w F b v xs) : IsList w F b xs := ⟨v, h⟩
theorem take_len (xs ys : List V) : (flat (xs ++ ys)).take (xs.length * 3) = flat xs := by rw [flat_take]; simp
theorem flat_set (xs : List V) (y : V) : ∀ i, i < xs.length → (((flat xs).set (i * 3) (.int .i64 y.k)).set (i * 3 + 1) (.int .i64 y.n)).set (i * 3 + 2) (.string y.t) = flat (xs.set i y) := by
  induction xs with
  | nil => intro i h; simp at h
  | cons x xs ih =>
    intro i h
    have e : flat (x :: xs) = x.cells ++ flat xs := by simp [flat]
    cases i with
    | zero => simp [flat, V.cells]
    | succ i =>
      have := ih i (by simpa using h)
      have e2 : flat ((x :: xs).set (i + 1) y) = x.cells ++ flat (xs.set i y) := by simp [flat]
      rw [e, e2, ← this]
      simp [V.cells, Nat.succ_mul]
/-- A row of the call's own with something in it: its block, its cells at a place, and a store there. -/
theorem Row.open3 {w : World} {F : Nat → Prop} {n c : Nat} {A : Option Addr} {xs : List V} (h : Row w F 29 3 (.slice A n c) n (flat xs)) {i : Nat} (hi : i < xs.length) : ∃ g, A = some ⟨g, 0, none⟩ ∧ F g ∧ g < w.heap.size ∧
    w.cell? ⟨g, i * 3, none⟩ = some (.int .i64 xs[i].k) ∧ w.cell? ⟨g, i * 3 + 1, none⟩ = some (.int .i64 xs[i].n) ∧ w.cell? ⟨g, i * 3 + 2, none⟩ = some (.string xs[i].t) ∧
    w.frozen? ⟨g, i * 3, none⟩ = false ∧ w.frozen? ⟨g, i * 3 + 1, none⟩ = false ∧ w.frozen? ⟨g, i * 3 + 2, none⟩ = false := by
  obtain ⟨b, o, rfl, h0, h1, h2⟩ := Vals.own h.1 i xs[i] (by simp [hi])
  have ho : o = 0 := by
    rcases h.1.2 with ⟨he, _⟩ | ⟨g, cap, cur, he, _⟩
    · simp at he
    · simp at he; exact he.1.2
  subst ho
  simp only [Nat.zero_add] at h0 h1 h2
  exact ⟨b, rfl, h.2 b rfl, World.block_lt_of_cell? w _ h0, h0, h1, h2, h.1.frozenAt _, h.1.frozenAt _, h.1.frozenAt _⟩
def put3 (w : World) (g i : Nat) (y : V) : World := ((w.setCell ⟨g, i * 3, none⟩ (.int .i64 y.k)).setCell ⟨g, i * 3 + 1, none⟩ (.int .i64 y.n)).setCell ⟨g, i * 3 + 2, none⟩ (.string y.t)
theorem Row.put3 {w : World} {F : Nat → Prop} {n c g : Nat} {xs : List V} (h : Row w F 29 3 (.slice (some ⟨g, 0, none⟩) n c) n (flat xs)) {i : Nat} (hi : i < xs.length) (y : V) :
    Row (put3 w g i y) F 29 3 (.slice (some ⟨g, 0, none⟩) n c) n (flat (xs.set i y)) := by
  have h3 := ((h.1.stored (i * 3) (.int .i64 y.k)).1.stored (i * 3 + 1) (.int .i64 y.n)).1.stored (i * 3 + 2) (.string y.t)
  rw [flat_set xs y i hi] at h3
  exact ⟨h3.1, h.2⟩
theorem SameBut.put3 {b : Nat} {w1 w2 : World} (h : SameBut b w1 w2) (i : Nat) (y : V) : SameBut b w1 (put3 w2 b i y) := ((h.set _ _).set _ _).set _ _
theorem IsListAt.put3 {w : World} {F : Nat → Prop} {b n c g : Nat} {xs : List V} (h : IsListAt w F b (.slice (some ⟨g, 0, none⟩) n c) xs) {i : Nat} (hi : i < xs.length) (y : V) :
    IsListAt (put3 w g i y) F b (.slice (some ⟨g, 0, none⟩) n c) (xs.set i y) ∧ Keeps F w (put3 w g i y) := by
  have hrow := h.row
  obtain ⟨A', c', e⟩ := hrow.form
  simp at e
  obtain ⟨-, rfl, -⟩ := e
  have hs := (SameBut.refl g w).put3 i y
  have hk : Keeps F w (Go.Proofs.Ytmefdniocgcckaa.put3 w g i y) := hs.keeps.mono (fun k _ e => e ▸ h.row.2 g rfl)
  have hne : b ≠ g := fun e => h.row.ne h.blk (by decide) g rfl e.symm
  refine ⟨⟨(hs.block b hne).trans h.blk, h.here, ?_, h.inw.keeps hk⟩, hk⟩
  have := hrow.put3 hi y
  simpa using this
end Go.Proofs.Ytmefdniocgcckaa
/- Layer 4: lists, what reads them: contracts. -/
namespace Go.Proofs.Ytmefdniocgcckaa
open Go.RowKit
set_option maxRecDepth 100000

/-- The first place of a value; -1: none. -/
def firstAt (xs : List V) (x : V) : Int := if x ∈ xs then (xs.idxOf x : Int) else -1
theorem firstAt_at {xs : List V} {x : V} {k : Nat} (hk : k < xs.length) (h : xs[k] = x) (hn : ∀ j, j < k → xs[j]? ≠ some x) : firstAt xs x = k := by
  have hm : x ∈ xs := h ▸ List.getElem_mem hk
  have hi := List.idxOf_lt_length_of_mem hm
  have h1 : xs[xs.idxOf x] = x := List.getElem_idxOf hi
  have h2 : ¬ xs.idxOf x < k := fun hlt => hn _ hlt (by rw [List.getElem?_eq_getElem hi, h1])
  have h3 : ¬ k < xs.idxOf x := fun hlt => by
    have := List.not_of_lt_findIdx (p := (· == x)) (xs := xs) (i := k) (by simpa [List.idxOf] using hlt)
    simp [h] at this
  rw [firstAt, if_pos hm]
  omega
theorem firstAt_none {xs : List V} {x : V} (hn : ∀ j, j < xs.length → xs[j]? ≠ some x) : firstAt xs x = -1 := by
  rw [firstAt, if_neg]
  intro hm
  obtain ⟨j, hj, h⟩ := List.mem_iff_getElem.1 hm
  exact hn j hj (by rw [List.getElem?_eq_getElem hj, h])

theorem V.ne_cases {a b : V} (h : ¬ b = a) : ¬ a.k = b.k ∨ (a.k = b.k ∧ ¬ a.n = b.n) ∨ (a.k = b.k ∧ a.n = b.n ∧ ¬ a.t.toList = b.t.toList) := by
  by_cases h1 : a.k = b.k
  · by_cases h2 : a.n = b.n
    · refine .inr (.inr ⟨h1, h2, fun h3 => h ?_⟩)
      rw [Lib.toList_data, Lib.toList_data] at h3
      obtain ⟨_, _, ⟨ad⟩⟩ := a
      obtain ⟨_, _, ⟨bd⟩⟩ := b
      simp_all
    · exact .inr (.inl ⟨h1, h2⟩)
  · exact .inl h1
theorem add_no (g o j : Nat) : (⟨g, o, none⟩ : Addr).add j = ⟨g, o + j, none⟩ := add_at3 g o j
theorem Vals.sub {w : World} {A : Option Addr} {xs : List V} (h : Vals w A xs) (i m : Nat) : Vals w (A.map fun x => x.add (i * 3)) ((xs.drop i).take m) := fun j x hj => by
  have hj' : xs[i + j]? = some x := by
    rw [List.getElem?_take] at hj
    split at hj
    · rwa [List.getElem?_drop] at hj
    · simp at hj
  obtain ⟨b, o, rfl, h0, h1, h2⟩ := h (i + j) x hj'
  refine ⟨b, o + i * 3, by simp [add_at3], ?_, ?_, ?_⟩
  · rw [← h0]; congr 2; omega
  · rw [← h1]; congr 2; omega
  · rw [← h2]; congr 2; omega
/-- A place that is told from the front or the end. -/
def fromEnd (n i : Int) : Int := if i < 0 then i + n else i
end Go.Proofs.Ytmefdniocgcckaa
/- Layer 4: lists turned round, inserted into: contracts. -/
namespace Go.Proofs.Ytmefdniocgcckaa
open Go.RowKit

theorem flat_drop (xs : List V) (i : Nat) (hi : i ≤ xs.length) : flat (xs.drop i) = (flat xs).drop (i * 3) := by
  have h := flat_append (xs.take i) (xs.drop i)
  rw [List.take_append_drop] at h
  have hl : (flat (xs.take i)).length = i * 3 := by rw [flat_length, List.length_take, Nat.min_eq_left hi]
  rw [h, ← hl, List.drop_left]
theorem info_val3 : (Try.prog.info? 29).map (·.size) = some 3 := by kernel_rfl

/-- The first k pairs are turned. -/
def turned (xs : List V) (k : Nat) : List V := (List.range xs.length).map fun p => if p < k ∨ xs.length ≤ p + k then xs.getD (xs.length - 1 - p) V.null else xs.getD p V.null
theorem turned_length (xs : List V) (k : Nat) : (turned xs k).length = xs.length := by simp [turned]
theorem turned_get {xs : List V} {k p : Nat} (hp : p < (turned xs k).length) : (turned xs k)[p] = if p < k ∨ xs.length ≤ p + k then xs.getD (xs.length - 1 - p) V.null else xs.getD p V.null := by simp [turned]
theorem turned_zero (xs : List V) : turned xs 0 = xs := by
  apply List.ext_getElem (turned_length xs 0)
  intro p h1 h2
  rw [turned_get, if_neg (by omega)]
  simp [h2]
theorem turned_all {xs : List V} {k : Nat} (hk : xs.length ≤ 2 * k + 1) (hk' : 2 * k ≤ xs.length) : turned xs k = xs.reverse := by
  apply List.ext_getElem (by rw [turned_length]; simp)
  intro p h1 h2
  rw [turned_length] at h1
  rw [turned_get, List.getElem_reverse]
  split
  · rw [List.getD_eq_getElem?_getD, List.getElem?_eq_getElem (by omega)]; rfl
  · rw [List.getD_eq_getElem?_getD, List.getElem?_eq_getElem (by omega)]
    have : p = xs.length - 1 - p := by omega
    show xs[p] = _
    congr 1
theorem turned_mid {xs : List V} {k p : Nat} (h : k ≤ p) (h' : p + k < xs.length) : (turned xs k)[p]'(by rw [turned_length]; omega) = xs.getD p V.null := by
  rw [turned_get, if_neg (by omega)]
theorem turned_succ {xs : List V} {k m : Nat} (hm : m + k + 1 = xs.length) (hk : k < m) :
    ((turned xs k).set k (xs.getD m V.null)).set m (xs.getD k V.null) = turned xs (k + 1) := by
  apply List.ext_getElem (by simp [turned_length])
  intro p h1 h2
  rw [turned_length] at h2
  rw [turned_get, List.getElem_set, List.getElem_set]
  by_cases e1 : m = p
  · rw [if_pos e1, if_pos (by omega)]
    congr 1; omega
  · rw [if_neg e1]
    by_cases e2 : k = p
    · rw [if_pos e2, if_pos (by omega)]
      congr 1; omega
    · rw [if_neg e2, turned_get]
      by_cases e3 : p < k ∨ xs.length ≤ p + k
      · rw [if_pos e3, if_pos (by omega)]
      · rw [if_neg e3, if_neg (by omega)]

theorem laid_at {w : World} {g i : Nat} {cur : Array Value} {xs : List V} (hg : w.heap[g]? = some (.cells cur 29 (0, 0))) (hx : cur.toList.take (xs.length * 3) = flat xs) (hi : i ≤ xs.length) :
    ∀ j v, (flat (xs.drop i))[j]? = some v → w.cell? ((⟨g, i * 3, none⟩ : Addr).add j) = some v := by
  intro j v hj
  rw [flat_drop xs i hi, ← hx, List.getElem?_drop, List.getElem?_take] at hj
  rw [add_at3, blk_cell hg]
  split at hj
  · simpa using hj
  · simp at hj

theorem Keeps.undrew {S : Nat → Prop} {w w1 : World} (h : Keeps S w.drew w1) : Keeps S w w1 := ⟨h.os, h.tape, h.output, h.size, h.block⟩
theorem insert_grow {L L2 : List Value} {xs : List V} {y : V} {i : Nat} (h0 : L2.take (i * 3) = L.take (i * 3)) (h1 : L.take (i * 3) = flat (xs.take i)) (h2 : (flat (xs.drop i)).length = (xs.length - i) * 3) (h3 : (xs.length + 1) * 3 ≤ L2.length) (hi : i ≤ xs.length) :
    (laid (laid L2 (i * 3) y.cells).toList ((i + 1) * 3) (flat (xs.drop i))).toList.take ((xs.length + 1) * 3) = flat (xs.take i ++ y :: xs.drop i) := by
  have e : flat (xs.take i ++ y :: xs.drop i) = (flat (xs.take i) ++ y.cells) ++ flat (xs.drop i) := by simp [flat]
  have hy : y.cells.length = 3 := rfl
  have hl0 : (flat (xs.take i)).length = i * 3 := by rw [← h1, ← h0, List.length_take]; omega
  have a1 : (laid L2 (i * 3) y.cells).toList = (flat (xs.take i) ++ y.cells) ++ L2.drop (i * 3 + y.cells.length) := by
    show (List.toArray _).toList = _
    rw [List.toList_toArray, h0, h1]
  have hl1 : (flat (xs.take i) ++ y.cells).length = (i + 1) * 3 := by rw [List.length_append, hl0, hy]; omega
  have a2 : (laid L2 (i * 3) y.cells).toList.take ((i + 1) * 3) = flat (xs.take i) ++ y.cells := by
    rw [a1, ← hl1, List.take_left]
  have a3 : (laid (laid L2 (i * 3) y.cells).toList ((i + 1) * 3) (flat (xs.drop i))).toList = ((flat (xs.take i) ++ y.cells) ++ flat (xs.drop i)) ++ (laid L2 (i * 3) y.cells).toList.drop ((i + 1) * 3 + (flat (xs.drop i)).length) := by
    show (List.toArray _).toList = _
    rw [List.toList_toArray, a2]
  have hlen : ((flat (xs.take i) ++ y.cells) ++ flat (xs.drop i)).length = (xs.length + 1) * 3 := by
    rw [List.length_append, hl1, h2]; omega
  rw [a3, e, ← hlen, List.take_left]
theorem V.one (y : V) : ∀ v ∈ y.cells, v.oneCell' = true := by
  intro v hv
  simp [V.cells] at hv
  rcases hv with rfl | rfl | rfl <;> rfl
theorem y_src {w : World} {vb : Nat} {y : V} (h : IsVar w vb y) : ∀ j v, y.cells[j]? = some v → w.cell? ((⟨vb, 0, none⟩ : Addr).add j) = some v := by
  intro j v hj
  rw [add_at3, Nat.zero_add, blk_cell h]
  simpa [V.cells] using hj
theorem insert_shift {L : List Value} {xs : List V} {y : V} {i : Nat} (h1 : L.take (i * 3) = flat (xs.take i)) (h2 : (flat (xs.drop i)).length = (xs.length - i) * 3) (h3 : (xs.length + 1) * 3 ≤ L.length) (hi : i ≤ xs.length) :
    (laid (laid L ((i + 1) * 3) (flat (xs.drop i))).toList (i * 3) y.cells).toList.take ((xs.length + 1) * 3) = flat (xs.take i ++ y :: xs.drop i) := by
  have e : flat (xs.take i ++ y :: xs.drop i) = flat (xs.take i) ++ (y.cells ++ flat (xs.drop i)) := by simp [flat]
  have hy : y.cells.length = 3 := rfl
  have hl0 : (L.take (i * 3)).length = i * 3 := by rw [List.length_take]; omega
  have hl1 : (L.take ((i + 1) * 3)).length = (i + 1) * 3 := by rw [List.length_take]; omega
  have a1 : (laid L ((i + 1) * 3) (flat (xs.drop i))).toList = L.take ((i + 1) * 3) ++ (flat (xs.drop i) ++ L.drop ((i + 1) * 3 + (flat (xs.drop i)).length)) := by simp [laid]
  have a2 : (laid L ((i + 1) * 3) (flat (xs.drop i))).toList.take (i * 3) = flat (xs.take i) := by
    rw [a1, List.take_append_of_le_length (by omega), List.take_take, ← h1]
    congr 1; omega
  have a3 : (laid L ((i + 1) * 3) (flat (xs.drop i))).toList.drop (i * 3 + y.cells.length) = flat (xs.drop i) ++ L.drop ((i + 1) * 3 + (flat (xs.drop i)).length) := by
    rw [a1, hy, show i * 3 + 3 = (i + 1) * 3 by omega]
    have := List.drop_left (l₁ := L.take ((i + 1) * 3)) (l₂ := flat (xs.drop i) ++ L.drop ((i + 1) * 3 + (flat (xs.drop i)).length))
    rwa [hl1] at this
  have a4 : (laid (laid L ((i + 1) * 3) (flat (xs.drop i))).toList (i * 3) y.cells).toList = (flat (xs.take i) ++ (y.cells ++ flat (xs.drop i))) ++ L.drop ((i + 1) * 3 + (flat (xs.drop i)).length) := by
    show (List.toArray _).toList = _
    rw [List.toList_toArray, a2, a3]
    simp
  have hlen : (flat (xs.take i) ++ (y.cells ++ flat (xs.drop i))).length = (xs.length + 1) * 3 := by
    rw [List.length_append, List.length_append, h2, hy, ← h1, hl0]; omega
  rw [a4, e, ← hlen, List.take_left]
end Go.Proofs.Ytmefdniocgcckaa
/- Layer 4: lists inserted into, cleared, removed from, resized: contracts. -/
namespace Go.Proofs.Ytmefdniocgcckaa
open Go.RowKit

theorem new2 (w : World) (o o' : Obj) : ((w.alloc o).alloc o').heap[w.heap.size + 1]? = some o' := by
  have := blk_new (w.alloc o) o'
  simpa using this
theorem IsVar.new2 (w : World) (o : Obj) (y : V) : IsVar ((w.alloc o).alloc (.cells #[.int .i64 y.k, .int .i64 y.n, .string y.t] 29)).drew (w.heap.size + 1) y := Go.Proofs.Ytmefdniocgcckaa.new2 w o _
/-- The list's own cell behind a call that made its row anew. -/
theorem IsListAt.cellKept {w W w1 : World} {F : Nat → Prop} {b : Nat} {v : Value} {xs : List V} (h : IsListAt w F b v xs) (hk : Keeps (fun _ => False) w W) (hk1 : Keeps (fun k => v.ownBlock = some k) W w1) :
    w1.heap[b]? = some (.cells #[v] 114 (0, 0)) := hk1.heap (hk.heap h.blk (fun h => h)) (fun e => h.row.ne h.blk (by decide) b e rfl)
theorem IsListAt.put' {w W w1 w2 : World} {F : Nat → Prop} {b n : Nat} {v v1 : Value} {xs ys : List V} {cs : List Value} (h : IsListAt w F b v xs) (hk : Keeps (fun _ => False) w W) (hn : n = ys.length) (hc : cs = flat ys)
    (hR : Row w1 (fun k => F k ∨ W.heap.size ≤ k) 29 3 v1 n cs) (hk1 : Keeps (fun k => v.ownBlock = some k) W w1) (h2 : SameBut b w1 w2) (hb : w2.heap[b]? = some (.cells #[v1] 114 (0, 0))) :
    ∃ F2, IsListAt w2 F2 b v1 ys ∧ Keeps F w w2 ∧ Fresh F F2 w := by
  have hW : IsListAt W F b v xs := ⟨hk.heap h.blk (fun h => h), h.here, h.row.keeps hk (Apart.no _), h.inw.keeps hk⟩
  obtain ⟨F2, g1, g2, g3⟩ := hW.put (m := 0) hn hc hR hk1 h2 hb
  exact ⟨F2, g1, (hk.mono (fun _ _ h => h.elim)).trans g2 (fun _ _ h => h), fun k hF => (g3 k hF).imp id (fun h => Nat.le_trans hk.size h)⟩
theorem insert_len {xs : List V} {i : Nat} {y : V} (hi : i ≤ xs.length) : xs.length + 1 = (xs.take i ++ y :: xs.drop i).length := by simp; omega
theorem zeros_null (k : Nat) : (Builtin.zeroCells (Value.agg #[.int .i64 0, .int .i64 0, .string ⟨#[]⟩]).cells k).toList.length = k * 3 := by simp [Builtin.zeroCells, Value.cells]
end Go.Proofs.Ytmefdniocgcckaa
/- Layer 4: the cells among values. -/
namespace Go.Proofs.Ytmefdniocgcckaa
open Go.RowKit

end Go.Proofs.Ytmefdniocgcckaa
