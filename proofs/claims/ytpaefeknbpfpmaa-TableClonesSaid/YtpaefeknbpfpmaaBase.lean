/- Words on memory, of no program: what a call keeps of the blocks that were there (Keeps), and rows of the call's own by their footprints. -/
import Derived.WalkKit
import Derived.Lib.AppendStr
import Derived.Deep.Draws
import Derived.Laws.BytesArg
import Derived.Deep.AppendSrc
import Derived.Deep.AppendLies
import Derived.Deep.RegionLaw
import Derived.Deep.QuietTactic
import Derived.BigQuiet
import Derived.BigRegion
import Derived.WalkSpells
import Derived.Deep.LoopGhost
import Derived.Deep.RegionWith
import Derived.Lib.Strings
import Derived.Lib.ConvBytes
namespace Go.Proofs.Ytpaefeknbpfpmaa
open Go.RowKit

/-- Of the blocks that were there none has turned but those of S. -/
structure Keeps (S : Nat → Prop) (w w' : World) : Prop where
  os : w'.os = w.os
  tape : w'.tape = w.tape
  output : w'.output = w.output
  size : w.heap.size ≤ w'.heap.size
  block : ∀ k, k < w.heap.size → ¬ S k → w'.heap[k]? = w.heap[k]?

theorem Keeps.refl (S : Nat → Prop) (w : World) : Keeps S w w := ⟨rfl, rfl, rfl, Nat.le_refl _, fun _ _ _ => rfl⟩
theorem Keeps.trans {S T : Nat → Prop} {a b c : World} (h : Keeps S a b) (k : Keeps T b c) (hs : ∀ i, i < a.heap.size → T i → S i) : Keeps S a c :=
  ⟨k.os.trans h.os, k.tape.trans h.tape, k.output.trans h.output, Nat.le_trans h.size k.size, fun i hi hn => (k.block i (Nat.lt_of_lt_of_le hi h.size) (fun ht => hn (hs i hi ht))).trans (h.block i hi hn)⟩
theorem Keeps.mono {S T : Nat → Prop} {a b : World} (h : Keeps S a b) (hs : ∀ i, i < a.heap.size → S i → T i) : Keeps T a b :=
  ⟨h.os, h.tape, h.output, h.size, fun i hi hn => h.block i hi (fun x => hn (hs i hi x))⟩
theorem Keeps.drew {S : Nat → Prop} {a w : World} (h : Keeps S a w) : Keeps S a w.drew := ⟨h.os, h.tape, h.output, h.size, h.block⟩
theorem Keeps.drewN {S : Nat → Prop} {a w : World} (h : Keeps S a w) (n : Nat) : Keeps S a (w.drewN n) := ⟨h.os, h.tape, h.output, h.size, h.block⟩
theorem Keeps.alloc {S : Nat → Prop} {a w : World} (h : Keeps S a w) (o : Obj) : Keeps S a (w.alloc o) :=
  ⟨h.os, h.tape, h.output, Nat.le_trans h.size (by simp), fun i hi hn => (Below.heap_alloc _ _ _ (Nat.lt_of_lt_of_le hi h.size)).trans (h.block i hi hn)⟩
theorem Keeps.setCell {S : Nat → Prop} {a w : World} (h : Keeps S a w) {p : Addr} (hp : p.block < a.heap.size → S p.block) (u : Value) : Keeps S a (w.setCell p u) :=
  ⟨h.os, h.tape, h.output, Nat.le_trans h.size (by simp [World.setCell]), fun i hi hn => by
    rw [Below.heap_setCell _ _ _ _ (fun e => hn (by rw [e]; exact hp (by rw [← e]; exact hi)))]
    exact h.block i hi hn⟩
theorem Keeps.grown {S : Nat → Prop} {a w w' : World} {row : Option Nat} (h : Keeps S a w) (hg : w.grownBy w' row) (hr : ∀ k, row = some k → k < a.heap.size → S k) : Keeps S a w' :=
  ⟨hg.os.trans h.os, hg.tape.trans h.tape, hg.output.trans h.output, Nat.le_trans h.size hg.size, fun i hi hn => (hg.block i (Nat.lt_of_lt_of_le hi h.size) (fun e => hn (hr i e.symm hi))).trans (h.block i hi hn)⟩
theorem Keeps.of_below {B : Nat} {a w : World} (h : Below B a w) : Keeps (fun k => B ≤ k) a w := ⟨h.os, h.tape, h.output, h.size, fun i _ hn => h.block i (Nat.lt_of_not_le hn)⟩
theorem Keeps.below {S : Nat → Prop} {B : Nat} {a w : World} (h : Keeps S a w) (hB : B ≤ a.heap.size) (hs : ∀ k, S k → B ≤ k) : Below B a w :=
  ⟨h.os, h.tape, h.output, h.size, fun i hi => h.block i (Nat.lt_of_lt_of_le hi hB) (fun x => Nat.lt_irrefl _ (Nat.lt_of_lt_of_le hi (hs i x)))⟩
theorem Keeps.cell {S : Nat → Prop} {w w' : World} (h : Keeps S w w') {p : Addr} {v : Value} (hc : w.cell? p = some v) (hn : ¬ S p.block) : w'.cell? p = some v :=
  (World.cell?_of_block (w := w) (h.block p.block (World.block_lt_of_cell? w p hc) hn)).trans hc
theorem Keeps.heap {S : Nat → Prop} {w w' : World} (h : Keeps S w w') {k : Nat} {o : Obj} (hc : w.heap[k]? = some o) (hn : ¬ S k) : w'.heap[k]? = some o :=
  (h.block k (Array.getElem?_eq_some_iff.1 hc).1 hn).trans hc

theorem Keeps.step {B : Nat} {F : Nat → Prop} {w wi wj : World} (K : Keeps (fun k => B ≤ k) w wi) (hF : ∀ k, F k → B ≤ k) (k : Keeps F wi wj) : Keeps (fun k => B ≤ k) w wj := K.trans k (fun i _ h => hF i h)
/-- A footprint F that came out of another one: new blocks alone have come. -/
def Fresh (F F' : Nat → Prop) (w : World) : Prop := ∀ k, F' k → F k ∨ w.heap.size ≤ k
def Apart (F G : Nat → Prop) : Prop := ∀ k, F k → ¬ G k
def In (F : Nat → Prop) (w : World) : Prop := ∀ k, F k → k < w.heap.size
theorem Apart.symm {F G : Nat → Prop} (h : Apart F G) : Apart G F := fun k hg hf => h k hf hg
theorem Apart.fresh {F F' G : Nat → Prop} {w : World} (h : Apart F G) (hf : Fresh F F' w) (hG : In G w) : Apart F' G := fun k hk hg => by
  rcases hf k hk with x | x
  · exact h k x hg
  · exact absurd (hG k hg) (by omega)
theorem Apart.none (G : Nat → Prop) : Apart (fun _ => False) G := fun _ h => h.elim
theorem Apart.no (G : Nat → Prop) : Apart G (fun _ => False) := fun _ _ h => h
theorem In.keeps {F S : Nat → Prop} {w w' : World} (h : In F w) (hk : Keeps S w w') : In F w' := fun k x => Nat.lt_of_lt_of_le (h k x) hk.size
theorem Fresh.refl (F : Nat → Prop) (w : World) : Fresh F F w := fun _ h => .inl h
theorem Fresh.trans {F G H S : Nat → Prop} {w w1 : World} (h : Fresh F G w) (k : Fresh G H w1) (hk : Keeps S w w1) : Fresh F H w := fun i hi => by
  rcases k i hi with x | x
  · exact h i x
  · exact .inr (Nat.le_trans hk.size x)
theorem Fresh.ge {F F' : Nat → Prop} {w : World} {B : Nat} (h : Fresh F F' w) (hF : ∀ k, F k → B ≤ k) (hB : B ≤ w.heap.size) : ∀ k, F' k → B ≤ k := fun k hk => by
  rcases h k hk with x | x
  · exact hF k x
  · omega
/-- A call that turned F's blocks into F''s, behind another one. -/
theorem Keeps.fresh {F F' : Nat → Prop} {w w1 w2 : World} (h : Keeps F w w1) (hf : Fresh F F' w) (k : Keeps F' w1 w2) : Keeps F w w2 :=
  h.trans k (fun i hi hx => by rcases hf i hx with x | x; exact x; omega)

/-- A row of the call's own, its block in F. -/
def Row (w : World) (F : Nat → Prop) (e size : Nat) (v : Value) (n : Nat) (xs : List Value) : Prop := w.ownsRow 0 e size v n xs ∧ ∀ k, v.ownBlock = some k → F k
theorem Row.nil (w : World) (F : Nat → Prop) (e size : Nat) : Row w F e size (.slice none 0 0) 0 [] := ⟨w.ownsRow_nil 0 e size, by simp [Value.ownBlock]⟩
theorem Row.lt {w : World} {F : Nat → Prop} {e size n : Nat} {v : Value} {xs : List Value} (h : Row w F e size v n xs) : ∀ k, v.ownBlock = some k → k < w.heap.size := fun k hk => (h.1.lt k hk).2
theorem Row.mono {w : World} {F G : Nat → Prop} {e size n : Nat} {v : Value} {xs : List Value} (h : Row w F e size v n xs) (hG : ∀ k, k < w.heap.size → F k → G k) : Row w G e size v n xs := ⟨h.1, fun k hk => hG k (h.lt k hk) (h.2 k hk)⟩
theorem ownsRow_move {w w1 : World} {base e size n : Nat} {v : Value} {xs : List Value} (h : w.ownsRow base e size v n xs) (hm : ∀ k, v.ownBlock = some k → w1.heap[k]? = w.heap[k]?) : w1.ownsRow base e size v n xs := by
  refine ⟨h.1, ?_⟩
  rcases h.2 with h2 | ⟨g, cap, cur, rfl, hb, hh, r⟩
  · exact .inl h2
  · exact .inr ⟨g, cap, cur, rfl, hb, (hm g rfl).trans hh, r⟩
theorem Row.keeps {w w1 : World} {F S : Nat → Prop} {e size n : Nat} {v : Value} {xs : List Value} (h : Row w F e size v n xs) (hk : Keeps S w w1) (hn : Apart F S) : Row w1 F e size v n xs :=
  ⟨ownsRow_move h.1 (fun k hb => hk.block k (h.lt k hb) (hn k (h.2 k hb))), h.2⟩
theorem Row.form {w : World} {F : Nat → Prop} {e size n : Nat} {v : Value} {xs : List Value} (h : Row w F e size v n xs) : ∃ A c, v = .slice A n c := by
  rcases h.1.2 with ⟨rfl, rfl⟩ | ⟨g, cap, cur, rfl, _⟩
  · exact ⟨_, _, rfl⟩
  · exact ⟨_, _, rfl⟩
theorem ownsRow_form {w : World} {base e size n : Nat} {v : Value} {xs : List Value} (h : w.ownsRow base e size v n xs) : ∃ A c, v = .slice A n c ∧ n ≤ c := by
  rcases h.2 with ⟨rfl, rfl⟩ | ⟨g, cap, cur, rfl, _, _, hc, _⟩
  · exact ⟨_, _, rfl, Nat.le_refl _⟩
  · exact ⟨_, _, rfl, hc⟩
theorem blk_cell {w : World} {g : Nat} {t : TypeId} {cs : Array Value} {z : Nat × Nat} (h : w.heap[g]? = some (.cells cs t z)) (i : Nat) : w.cell? ⟨g, i, none⟩ = cs[i]? := cell_of_row w g i cs t z h
theorem blk_frozen {w : World} {g : Nat} {t : TypeId} {cs : Array Value} (h : w.heap[g]? = some (.cells cs t (0, 0))) (i : Nat) : w.frozen? ⟨g, i, none⟩ = false := by simp [World.frozen?, h]
theorem blk_lt {w : World} {g : Nat} {o : Obj} (h : w.heap[g]? = some o) : g < w.heap.size := (Array.getElem?_eq_some_iff.1 h).1
theorem blk_set {w : World} {g : Nat} {t : TypeId} {cs : Array Value} (h : w.heap[g]? = some (.cells cs t (0, 0))) (i : Nat) (u : Value) : (w.setCell ⟨g, i, none⟩ u).heap[g]? = some (.cells (cs.setIfInBounds i u) t (0, 0)) := by
  simp [World.setCell, Array.getElem?_modify, h]
theorem blk_far {w : World} {g : Nat} {o : Obj} (h : w.heap[g]? = some o) {p : Addr} (hp : g ≠ p.block) (u : Value) : (w.setCell p u).heap[g]? = some o := (Below.heap_setCell w p u g hp).trans h
theorem blk_alloc {w : World} {g : Nat} {o : Obj} (h : w.heap[g]? = some o) (o' : Obj) : (w.alloc o').heap[g]? = some o := (Below.heap_alloc w o' g (blk_lt h)).trans h
theorem blk_new (w : World) (o : Obj) : (w.alloc o).heap[w.heap.size]? = some o := heap_alloc_new w o
theorem blk_ne {w : World} {g g' : Nat} {t t' : TypeId} {cs cs' : Array Value} {z z' : Nat × Nat} (h : w.heap[g]? = some (.cells cs t z)) (h' : w.heap[g']? = some (.cells cs' t' z')) (hne : t ≠ t') : g ≠ g' := by
  rintro rfl
  rw [h] at h'
  simp at h'
  exact hne h'.2.1
theorem own_typed {w : World} {base e size n : Nat} {v : Value} {xs : List Value} (h : w.ownsRow base e size v n xs) (k : Nat) (hk : v.ownBlock = some k) : ∃ cs, w.heap[k]? = some (.cells cs e (0, 0)) := by
  rcases h.2 with ⟨rfl, _⟩ | ⟨g, cap, cur, rfl, _, hg, _⟩
  · simp [Value.ownBlock] at hk
  · simp [Value.ownBlock] at hk
    subst hk
    exact ⟨cur, hg⟩
theorem own_ne {w : World} {base e size n : Nat} {v : Value} {xs : List Value} (h : w.ownsRow base e size v n xs) {g t : Nat} {cs : Array Value} {z : Nat × Nat} (hg : w.heap[g]? = some (.cells cs t z)) (hne : e ≠ t) : ∀ k, v.ownBlock = some k → k ≠ g := by
  rintro k hk rfl
  obtain ⟨cs', h'⟩ := own_typed h k hk
  exact blk_ne h' hg hne rfl
theorem Row.set {w : World} {F : Nat → Prop} {e size n : Nat} {v : Value} {xs : List Value} (h : Row w F e size v n xs) {p : Addr} (hn : ∀ k, v.ownBlock = some k → k ≠ p.block) (u : Value) : Row (w.setCell p u) F e size v n xs :=
  ⟨ownsRow_move h.1 (fun k hb => Below.heap_setCell w p u k (hn k hb)), h.2⟩
theorem Row.drew {w : World} {F : Nat → Prop} {e size n : Nat} {v : Value} {xs : List Value} (h : Row w F e size v n xs) : Row w.drew F e size v n xs := ⟨ownsRow_move h.1 (fun _ _ => rfl), h.2⟩
theorem Row.drewN {w : World} {F : Nat → Prop} {e size n : Nat} {v : Value} {xs : List Value} (h : Row w F e size v n xs) (m : Nat) : Row (w.drewN m) F e size v n xs := ⟨ownsRow_move h.1 (fun _ _ => rfl), h.2⟩
theorem Row.alloc {w : World} {F : Nat → Prop} {e size n : Nat} {v : Value} {xs : List Value} (h : Row w F e size v n xs) (o : Obj) : Row (w.alloc o) F e size v n xs := ⟨ownsRow_move h.1 (fun k hb => Below.heap_alloc w o k (h.lt k hb)), h.2⟩
theorem Row.ne {w : World} {F : Nat → Prop} {e size n : Nat} {v : Value} {xs : List Value} (h : Row w F e size v n xs) {g t : Nat} {cs : Array Value} {z : Nat × Nat} (hg : w.heap[g]? = some (.cells cs t z)) (hne : e ≠ t) : ∀ k, v.ownBlock = some k → k ≠ g := own_ne h.1 hg hne

theorem Row.cap {w : World} {F : Nat → Prop} {e size n c : Nat} {A : Option Addr} {xs : List Value} (h : Row w F e size (.slice A n c) n xs) : n ≤ c := by
  rcases h.1.2 with ⟨h1, rfl⟩ | ⟨g, cap, cur, h1, _, _, hc, _⟩
  · exact Nat.zero_le _
  · simp at h1
    omega
theorem Row.take {w : World} {F : Nat → Prop} {e size n m c : Nat} {A : Option Addr} {xs : List Value} (h : Row w F e size (.slice A n c) n xs) (hm : m ≤ n) : Row w F e size (.slice A m c) m (xs.take (m * size)) := by
  have hl : (xs.take (m * size)).length = m * size := by
    rw [List.length_take, h.1.1]
    exact Nat.min_eq_left (Nat.mul_le_mul_right _ hm)
  refine ⟨⟨hl, ?_⟩, fun k hk => h.2 k (by cases A with | none => simp [Value.ownBlock] at hk | some a => exact hk)⟩
  rcases h.1.2 with ⟨h1, rfl⟩ | ⟨g, cap, cur, h1, hb, hg, hc, hx, hs, ht⟩
  · simp at h1
    obtain rfl : m = 0 := by omega
    exact .inl ⟨by simp [h1], rfl⟩
  · simp at h1
    obtain ⟨rfl, rfl⟩ := h1
    refine .inr ⟨g, c, cur, rfl, hb, hg, by omega, hx, hs, ?_⟩
    rw [← ht, List.take_take]
    congr 1
    exact (Nat.min_eq_left (Nat.mul_le_mul_right _ hm)).symm

theorem Row.made0 (w : World) (e size : Nat) : Row (w.alloc (.cells #[] e)) (fun k => k = w.heap.size) e size (.slice (some ⟨w.heap.size, 0, none⟩) 0 0) 0 [] :=
  ⟨World.ownsRow_made w #[] 0 (Nat.zero_le _) (Nat.zero_le _) (by simp), fun k hk => by simpa [Value.ownBlock] using hk.symm⟩

/-! append, of whatever, onto a row of the call's own -/
section
variable {P : Program}
theorem app_run (w : World) (F : Nat → Prop) (t tx ty e : TypeId) (z : Value) (size bytes : Nat) (ht : P.underlying t = some (.slice e)) (hinfo : (P.info? e).map (fun i => (i.zero, i.size, i.bytes)) = some (some z, size, bytes)) (hzs : z.cells.size = size) (hsz : 0 < size)
    (v : Value) (n : Nat) (xs : List Value) (hR : Row w F e size v n xs) (x : Value) (m : Nat) (news : List Value) (hs : Src P size tx x m news w) (hb0 : n + m ≤ 9223372036854775807) (hbytes : (n + m) * bytes ≤ 140737488355328) :
    ∃ A c w1, (Builtin.append_ #[t, tx] ty #[v, x]).run P w = .ok (.slice A (n + m) c) w1 ∧ Row w1 (fun k => F k ∨ w.heap.size ≤ k) e size (.slice A (n + m) c) (n + m) (xs ++ news) ∧ Keeps (fun k => v.ownBlock = some k) w w1 := by
  obtain ⟨i, hi, hz, hsize, hby⟩ := info_parts hinfo
  subst hsize hby
  have hlen : (xs ++ news).length = (n + m) * i.size := by rw [List.length_append, hR.1.1, hs.newsLen, Nat.add_mul]
  have hmax : n + m ≤ maxLen := by unfold maxLen; omega
  have grown : ∀ (old : Nat), old < n + m → ∃ A c, (.slice (some ⟨w.heap.size, 0, none⟩) (n + m) (grownCap w (n + m) old e) : Value) = .slice A (n + m) c ∧
      Row (w.drew.alloc (.cells ((xs ++ news).toArray ++ Builtin.zeroCells z.cells (grownCap w (n + m) old e - (n + m))) e)) (fun k => F k ∨ w.heap.size ≤ k) e i.size (.slice A (n + m) c) (n + m) (xs ++ news) := by
    intro old ho
    have hge := grownCap_ge w (n + m) old e
    have hcm : grownCap w (n + m) old e ≤ maxLen := grownCap_le_maxLen w (n + m) old e hmax
    refine ⟨_, _, rfl, ⟨hlen, .inr ⟨w.heap.size, _, _, rfl, Nat.zero_le _, heap_alloc_new w.drew _, hge, hcm, ?_, ?_⟩⟩, fun k hk => ?_⟩
    · simp only [Array.size_append, List.size_toArray, size_zeroCells, hzs, hlen]
      rw [← Nat.add_mul]
      congr 1
      omega
    · simp only [Array.toList_append]
      rw [← hlen]
      exact List.take_left
    · simp [Value.ownBlock] at hk
      omega
  rcases hR.1.2 with ⟨rfl, rfl⟩ | ⟨g, cap, cur, rfl, _, hg, hnc, hcm, hcs, htake⟩
  · obtain rfl : xs = [] := List.eq_nil_of_length_eq_zero (by simpa using hR.1.1)
    by_cases hm : m = 0
    · subst hm
      obtain rfl : news = [] := List.eq_nil_of_length_eq_zero (by simpa using hs.newsLen)
      refine ⟨none, 0, w, ?_, Row.nil _ _ _ _, Keeps.refl _ _⟩
      rcases hs.kind with ⟨e', hk⟩ | hk <;> simp [Builtin.append_, run_underlying ht, run_underlying hk, sizeOf, typeInfo, hi, hs.len, hs.cells]
    · have hr := run_append_grow_src w t tx ty e i z ht hi hz none 0 0 [] (run_firstCells_none w.drew i.size 0 0 0) x m news hs (by omega) (by omega) (growslice_fits (by omega) hbytes)
      obtain ⟨A, c, he, hrow⟩ := grown 0 (by omega)
      exact ⟨A, c, _, by rw [← he]; exact hr, hrow, (Keeps.refl _ _).drew.alloc _⟩
  · by_cases hroom : n + m ≤ cap
    · have hfit : n * i.size + news.length ≤ cur.size := by rw [hs.newsLen, hcs, ← Nat.add_mul]; exact Nat.mul_le_mul_right _ hroom
      have hrun : (Builtin.append_ #[t, tx] ty #[.slice (some ⟨g, 0, none⟩) n cap, x]).run P w = .ok (.slice (some ⟨g, 0, none⟩) (n + m) cap) (w.setRow g (cur.toList.take (n * i.size) ++ news ++ cur.toList.drop (n * i.size + news.length)).toArray) := by
        have hst := run_storeCells_at P g (n * i.size) e news 0 cur w hg (by simpa using hfit) hs.one
        simp only [Nat.add_zero] at hst
        rcases hs.kind with ⟨e', hk⟩ | hk <;> simp [Builtin.append_, run_underlying ht, run_underlying hk, sizeOf, typeInfo, hi, hs.len, hroom, hs.cells, Addr.add_lit, hst]
      refine ⟨_, _, _, hrun, ⟨⟨hlen, .inr ⟨g, cap, _, rfl, Nat.zero_le _, setRow_heap w g cur _ e _ hg, hroom, hcm, ?_, ?_⟩⟩, fun k hk => .inl (hR.2 k hk)⟩, ⟨rfl, rfl, rfl, by simp, fun k _ hk => setRow_other w g k _ (fun e => hk (by simp [Value.ownBlock, e]))⟩⟩
      · simp only [List.size_toArray, List.length_append, List.length_take, List.length_drop, Array.length_toList]
        omega
      · rw [htake, ← hlen]
        exact List.take_left
    · have holds : ∀ j u, xs[j]? = some u → w.cell? ((⟨g, 0, none⟩ : Addr).add j) = some u := hR.1.cells (g := g) rfl
      have hr := run_append_grow_src w t tx ty e i z ht hi hz (some ⟨g, 0, none⟩) n cap xs (run_firstCells_some w.drew i.size n ⟨g, 0, none⟩ n cap xs hR.1.1 (by simpa using holds)) x m news hs (by omega) (by omega) (growslice_fits (by omega) hbytes)
      obtain ⟨A, c, he, hrow⟩ := grown cap (by omega)
      exact ⟨A, c, _, by rw [← he]; exact hr, hrow, (Keeps.refl _ _).drew.alloc _⟩

variable {ops : Array Oper} {o : Oper} {a : Act} {Q : Exit → Act → World → Prop} {w : World}
theorem app_wp {K : Act → World → Prop} (F : Nat → Prop) (s x : Operand) (t tx e : TypeId) (z : Value) (size bytes : Nat) (ho : o.op = .call { callee := .builtin .append, args := #[s, x], argTypes := #[t, tx] })
    (ht : P.underlying t = some (.slice e)) (hinfo : (P.info? e).map (fun i => (i.zero, i.size, i.bytes)) = some (some z, size, bytes)) (hzs : z.cells.size = size) (hsz : 0 < size)
    (v : Value) (n : Nat) (xs : List Value) (hv : a.eval s = v) (hR : Row w F e size v n xs) (xv : Value) (hx : a.eval x = xv) (m : Nat) (news : List Value) (hs : Src P size tx xv m news w) (hb0 : n + m ≤ 9223372036854775807) (hbytes : (n + m) * bytes ≤ 140737488355328)
    (h : ∀ A c w1, Row w1 (fun k => F k ∨ w.heap.size ≤ k) e size (.slice A (n + m) c) (n + m) (xs ++ news) → Keeps (fun k => v.ownBlock = some k) w w1 → K (a.put o.dst (.slice A (n + m) c)) w1) : o.wp P a w K Q := by
  obtain ⟨A, c, w1, hr, h1, h2⟩ := app_run w F t tx o.type e z size bytes ht hinfo hzs hsz v n xs hR xv m news hs hb0 hbytes
  unfold Oper.wp execOp
  simp only [ho, resolve, invoke, builtin, Sem.run_bind, Sem.run_pure, Result.andThen_ok, List.map_toArray, List.map_cons, List.map_nil, hv, hx, hr]
  exact h A c w1 h1 h2
theorem app_list {rest : List Oper} (hg : o.guard = none) (F : Nat → Prop) (s x : Operand) (t tx e : TypeId) (z : Value) (size bytes : Nat) (ho : o.op = .call { callee := .builtin .append, args := #[s, x], argTypes := #[t, tx] })
    (ht : P.underlying t = some (.slice e)) (hinfo : (P.info? e).map (fun i => (i.zero, i.size, i.bytes)) = some (some z, size, bytes)) (hzs : z.cells.size = size) (hsz : 0 < size)
    (v : Value) (n : Nat) (xs : List Value) (hv : a.eval s = v) (hR : Row w F e size v n xs) (xv : Value) (hx : a.eval x = xv) (m : Nat) (news : List Value) (hs : Src P size tx xv m news w) (hb0 : n + m ≤ 9223372036854775807) (hbytes : (n + m) * bytes ≤ 140737488355328)
    (h : ∀ A c w1, Row w1 (fun k => F k ∨ w.heap.size ≤ k) e size (.slice A (n + m) c) (n + m) (xs ++ news) → Keeps (fun k => v.ownBlock = some k) w w1 → wpList P ops Q rest (a.put o.dst (.slice A (n + m) c)) w1) : wpList P ops Q (o :: rest) a w :=
  wpList_plain hg fun _ hK => app_wp F s x t tx e z size bytes ho ht hinfo hzs hsz v n xs hv hR xv hx m news hs hb0 hbytes fun A c w1 h1 h2 => hK _ _ (h A c w1 h1 h2)
theorem app_step {K : Act → World → Prop} {E : Prop} (hg : o.guard = none) (F : Nat → Prop) (s x : Operand) (t tx e : TypeId) (z : Value) (size bytes : Nat) (ho : o.op = .call { callee := .builtin .append, args := #[s, x], argTypes := #[t, tx] })
    (ht : P.underlying t = some (.slice e)) (hinfo : (P.info? e).map (fun i => (i.zero, i.size, i.bytes)) = some (some z, size, bytes)) (hzs : z.cells.size = size) (hsz : 0 < size)
    (v : Value) (n : Nat) (xs : List Value) (hv : a.eval s = v) (hR : Row w F e size v n xs) (xv : Value) (hx : a.eval x = xv) (m : Nat) (news : List Value) (hs : Src P size tx xv m news w) (hb0 : n + m ≤ 9223372036854775807) (hbytes : (n + m) * bytes ≤ 140737488355328)
    (h : ∀ A c w1, Row w1 (fun k => F k ∨ w.heap.size ≤ k) e size (.slice A (n + m) c) (n + m) (xs ++ news) → Keeps (fun k => v.ownBlock = some k) w w1 → K (a.put o.dst (.slice A (n + m) c)) w1) :
    if Region.wanted o (yielded ops a.tmps) = true then Oper.wp P o a w K Q else E := by
  have hw : Region.wanted o (yielded ops a.tmps) = true := by simp [Region.wanted, hg]
  rw [if_pos hw]
  exact app_wp F s x t tx e z size bytes ho ht hinfo hzs hsz v n xs hv hR xv hx m news hs hb0 hbytes h
end

/-- w2 is w1 but for block b. -/
structure SameBut (b : Nat) (w1 w2 : World) : Prop where
  os : w2.os = w1.os
  tape : w2.tape = w1.tape
  output : w2.output = w1.output
  size : w2.heap.size = w1.heap.size
  block : ∀ k, k ≠ b → w2.heap[k]? = w1.heap[k]?
theorem SameBut.refl (b : Nat) (w : World) : SameBut b w w := ⟨rfl, rfl, rfl, rfl, fun _ _ => rfl⟩
theorem SameBut.set {b : Nat} {w1 w2 : World} (h : SameBut b w1 w2) (i : Nat) (u : Value) : SameBut b w1 (w2.setCell ⟨b, i, none⟩ u) :=
  ⟨h.os, h.tape, h.output, by simp [World.setCell, h.size], fun k hk => (Below.heap_setCell w2 ⟨b, i, none⟩ u k hk).trans (h.block k hk)⟩
theorem SameBut.drew {b : Nat} {w1 w2 : World} (h : SameBut b w1 w2) : SameBut b w1 w2.drew := ⟨h.os, h.tape, h.output, h.size, h.block⟩
theorem SameBut.drewN {b : Nat} {w1 w2 : World} (h : SameBut b w1 w2) (n : Nat) : SameBut b w1 (w2.drewN n) := ⟨h.os, h.tape, h.output, h.size, h.block⟩
theorem SameBut.keeps {b : Nat} {w1 w2 : World} (h : SameBut b w1 w2) : Keeps (fun k => k = b) w1 w2 := ⟨h.os, h.tape, h.output, Nat.le_of_eq h.size.symm, fun k _ hn => h.block k hn⟩

/-- Behind an append onto a field's row, and stores into the struct's own block b: what is kept, and where the row lies now. -/
theorem upd_end {wr w1 w2 : World} {F : Nat → Prop} {b m e size n n1 : Nat} {v v1 : Value} {xs ys : List Value} (hin : In F wr) (hb : F b) (hR : Row wr F e size v n xs)
    (hR1 : Row w1 (fun k => F k ∨ wr.heap.size ≤ k) e size v1 n1 ys) (hK1 : Keeps (fun k => v.ownBlock = some k) (wr.drewN m) w1) (hne : ∀ k, v1.ownBlock = some k → k ≠ b) (h2 : SameBut b w1 w2) :
    ∃ F2, Row w2 F2 e size v1 n1 ys ∧ F2 b ∧ In F2 w2 ∧ Keeps F wr w2 ∧ Fresh F F2 wr := by
  have hs := hK1.size
  simp only [World.heap_drewN] at hs
  refine ⟨fun k => (F k ∨ wr.heap.size ≤ k) ∧ k < w2.heap.size, ⟨ownsRow_move hR1.1 (fun k hk => h2.block k (hne k hk)), fun k hk => ⟨hR1.2 k hk, by rw [h2.size]; exact hR1.lt k hk⟩⟩, ⟨.inl hb, ?_⟩, fun k hk => hk.2, ?_, fun k hk => hk.1⟩
  · have := hin b hb
    rw [h2.size]; omega
  · have k0 : Keeps (fun k => v.ownBlock = some k) wr w1 := ⟨hK1.os, hK1.tape, hK1.output, hK1.size, hK1.block⟩
    exact (k0.mono (fun i _ hi => hR.2 i hi)).trans h2.keeps (fun i _ hi => hi ▸ hb)

/-- The same world, but that answers were drawn. -/
def Drew (w w' : World) : Prop := ∃ n, w' = w.drewN n
theorem Drew.refl (w : World) : Drew w w := ⟨0, rfl⟩
theorem Drew.drewN {w w' : World} (h : Drew w w') (m : Nat) : Drew w (w'.drewN m) := by
  obtain ⟨n, rfl⟩ := h
  exact ⟨n + m, by simp [World.drewN, Nat.add_assoc]⟩
theorem Drew.drew {w w' : World} (h : Drew w w') : Drew w w'.drew := by
  obtain ⟨n, rfl⟩ := h
  exact ⟨n + 1, by simp [World.drewN, World.drew, Nat.add_assoc]⟩
theorem Drew.keeps {w w' : World} (h : Drew w w') (S : Nat → Prop) : Keeps S w w' := by
  obtain ⟨n, rfl⟩ := h
  exact (Keeps.refl S w).drewN n
theorem Drew.trans {w w1 w2 : World} (h : Drew w w1) (k : Drew w1 w2) : Drew w w2 := by
  obtain ⟨n, rfl⟩ := k
  exact h.drewN n
/-- A post that the walk doesn't open. -/
theorem post_gen {P : Program} {f : FuncId} {args : Array Value} {w : World} {R : Ending → World → Prop} (h : ∀ R' : Ending → World → Prop, Hid (∀ e w', R e w' → R' e w') → Calls P f args w R') : Calls P f args w R := h R (fun _ _ x => x)
theorem hidden {p : Prop} (h : p) : Hid p := h
def byteCells (l : List UInt8) : List Value := l.map fun b => .int .u8 b.toNat
def mkS (l : List UInt8) : ByteArray := ⟨l.toArray⟩
theorem byteCells_length (l : List UInt8) : (byteCells l).length = l.length := by simp [byteCells]
theorem byteCells_append (l m : List UInt8) : byteCells (l ++ m) = byteCells l ++ byteCells m := by simp [byteCells]
theorem byteCells_str (s : ByteArray) : Lib.strCells s = byteCells s.data.toList := rfl
/-- string(b), b a row of bytes of the call's own. -/
theorem own_text {P : Program} {w : World} {base n : Nat} {e' src dst e : TypeId} {v : Value} {xs : List UInt8} (hs : P.underlying src = some (.slice e)) (he : P.underlying e = some (.int .u8)) (hd : P.underlying dst = some .string)
    (h : w.ownsRow base e' 1 v n (byteCells xs)) : (convert src dst v).run P w = .ok (.string ⟨xs.toArray⟩) w := by
  have hl : xs.length = n := by have := h.1; simp [byteCells] at this; exact this
  rcases h.2 with ⟨rfl, rfl⟩ | ⟨g, cap, cur, rfl, _⟩
  · obtain rfl : xs = [] := List.eq_nil_of_length_eq_zero hl
    exact run_convert_bytes_nil w src e hs he 0 0 dst hd
  · have k := run_convert_bytes_arg w src e hs he g 0 n cap (xs.map fun b => (b.toNat : Int)) (by simpa using hl) (fun i hi => ?_) dst hd
    · rw [k]
      congr 2
      simp only [strOfNums, List.map_map]
      congr 2
      have : ((fun n : Int => UInt8.ofNat n.toNat) ∘ fun b : UInt8 => (b.toNat : Int)) = id := by funext b; simp
      rw [this, List.map_id]
    · have hi' : i < xs.length := by omega
      have hc := h.cells (g := g) rfl i (.int .u8 (xs[i]).toNat) (by simp [byteCells, hi'])
      have ha : (⟨g, 0, none⟩ : Addr).add i = ⟨g, 0 + i, none⟩ := by unfold Addr.add; split <;> simp_all
      rw [ha] at hc
      rw [hc]
      simp [List.getD_eq_getElem?_getD, hi']
theorem ret_int {k : IntKind} {a b : Int} (h : a = b) : Ending.returned (.int k a) = .returned (.int k b) := by rw [h]
theorem ret_bool {a b : Bool} (h : a = b) : Ending.returned (.bool a) = .returned (.bool b) := by rw [h]
theorem ret_str {a b : ByteArray} (h : a = b) : Ending.returned (.string a) = .returned (.string b) := by rw [h]
theorem app_lit_end {w wr w1 : World} {F' S : Nat → Prop} {e size n n1 : Nat} {v v1 : Value} {ys xs : List Value} {o : Obj} (hR : Row wr F' e size v n xs) (hK : Keeps S w wr) (hF : Fresh S F' w) (hR1 : Row w1 (fun k => F' k ∨ (wr.alloc o).heap.size ≤ k) e size v1 n1 ys) (hK1 : Keeps (fun k => v.ownBlock = some k) (wr.alloc o) w1) :
    Row w1 (fun k => F' k ∨ wr.heap.size ≤ k) e size v1 n1 ys ∧ Keeps S w w1 ∧ Fresh S (fun k => F' k ∨ wr.heap.size ≤ k) w := by
  refine ⟨hR1.mono (fun k _ h => h.imp id (fun h => by simp at h; omega)), ?_, fun k h => ?_⟩
  · refine hK.trans (((Keeps.refl (fun k => v.ownBlock = some k) wr).alloc o).trans hK1 (fun i _ h => h)) (fun i hi h => ?_)
    rcases hF i (hR.2 i h) with x | x
    · exact x
    · omega
  · rcases h with h | h
    · exact hF k h
    · have := hK.size; exact .inr (by omega)

end Go.Proofs.Ytpaefeknbpfpmaa
