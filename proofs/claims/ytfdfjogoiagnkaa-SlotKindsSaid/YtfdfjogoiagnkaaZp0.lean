/- Texts that belong together: Open Base Val Vals OpenV StrP Txt StrB StrC Hash Ints Tab Copy TabB TabC TabD TabE TabF TabG TabH TabI TabJ TabK. -/
import Derived.WalkKit
import Derived.ProofKit
import Derived.OpenShut
import Derived.ShutString
import Derived.ChangeOld
import Derived.Below
import Derived.SizedLaws
import Derived.SliceStrings
import Derived.ChangeArms
import Derived.Lib.AppendStr
import Derived.Deep.Draws
import Derived.Laws.BytesArg
import Derived.Deep.AppendSrc
import Derived.Deep.AppendLies
import Derived.Deep.RegionLaw
import Derived.Deep.QuietTactic
import Derived.BigQuiet
import Derived.BigRegion
import Derived.WalkSpells
import Derived.Deep.LoopGhost
import Derived.Deep.RegionWith
import Derived.Lib.Strings
import Derived.Lib.ConvBytes
import Derived.Test.YtfdfjogoiagnkaaRows
import Derived.Deep.Strs
import Derived.Test.YtfdfjogoiagnkaaProg
import Derived.IntWalk
import Derived.Lib.AppendZerosOnto
import Derived.Lib.Overlaps
import Derived.Laws.CopyRow
import Derived.OwnWalk
import Derived.Deep.RegionHeld3
import Derived.Deep.CutBlock
import Derived.Deep.DeepCutAuto
set_option linter.unusedSimpArgs false
set_option linter.unusedVariables false
namespace Go.Proofs.Ytfdfjogoiagnkaa
open Go.RowKit Go.ChangeShapes Go.WideShapes

section
variable {H : Type} {enc : TypeId × Value → H} {P : Program} {w : World} {base : Nat} {spare : Nat → Bool} {held : Bool}
theorem wf_i64 {n : Int} (h : (Lit.int .i64 n).wf = true) : -9223372036854775808 ≤ n ∧ n ≤ 9223372036854775807 := by simp [Lit.wf, IntKind.min, IntKind.max] at h; simpa [IntKind.signed, IntKind.bits] using h
end
end Go.Proofs.Ytfdfjogoiagnkaa
namespace Go.Proofs.Ytfdfjogoiagnkaa
open Go.RowKit

structure Keeps (S : Nat → Prop) (w w' : World) : Prop where
  os : w'.os = w.os
  tape : w'.tape = w.tape
  output : w'.output = w.output
  size : w.heap.size ≤ w'.heap.size
  block : ∀ k, k < w.heap.size → ¬ S k → w'.heap[k]? = w.heap[k]?

theorem Keeps.refl (S : Nat → Prop) (w : World) : Keeps S w w := ⟨rfl, rfl, rfl, Nat.le_refl _, fun _ _ _ => rfl⟩
theorem Keeps.trans {S T : Nat → Prop} {a b c : World} (h : Keeps S a b) (k : Keeps T b c) (hs : ∀ i, i < a.heap.size → T i → S i) : Keeps S a c :=
  ⟨k.os.trans h.os, k.tape.trans h.tape, k.output.trans h.output, Nat.le_trans h.size k.size, fun i hi hn => (k.block i (Nat.lt_of_lt_of_le hi h.size) (fun ht => hn (hs i hi ht))).trans (h.block i hi hn)⟩
theorem Keeps.mono {S T : Nat → Prop} {a b : World} (h : Keeps S a b) (hs : ∀ i, i < a.heap.size → S i → T i) : Keeps T a b :=
  ⟨h.os, h.tape, h.output, h.size, fun i hi hn => h.block i hi (fun x => hn (hs i hi x))⟩
theorem Keeps.drew {S : Nat → Prop} {a w : World} (h : Keeps S a w) : Keeps S a w.drew := ⟨h.os, h.tape, h.output, h.size, h.block⟩
theorem Keeps.drewN {S : Nat → Prop} {a w : World} (h : Keeps S a w) (n : Nat) : Keeps S a (w.drewN n) := ⟨h.os, h.tape, h.output, h.size, h.block⟩
theorem Keeps.alloc {S : Nat → Prop} {a w : World} (h : Keeps S a w) (o : Obj) : Keeps S a (w.alloc o) :=
  ⟨h.os, h.tape, h.output, Nat.le_trans h.size (by simp), fun i hi hn => (Below.heap_alloc _ _ _ (Nat.lt_of_lt_of_le hi h.size)).trans (h.block i hi hn)⟩
theorem Keeps.setCell {S : Nat → Prop} {a w : World} (h : Keeps S a w) {p : Addr} (hp : p.block < a.heap.size → S p.block) (u : Value) : Keeps S a (w.setCell p u) :=
  ⟨h.os, h.tape, h.output, Nat.le_trans h.size (by simp [World.setCell]), fun i hi hn => by
    rw [Below.heap_setCell _ _ _ _ (fun e => hn (by rw [e]; exact hp (by rw [← e]; exact hi)))]
    exact h.block i hi hn⟩
theorem Keeps.grown {S : Nat → Prop} {a w w' : World} {row : Option Nat} (h : Keeps S a w) (hg : w.grownBy w' row) (hr : ∀ k, row = some k → k < a.heap.size → S k) : Keeps S a w' :=
  ⟨hg.os.trans h.os, hg.tape.trans h.tape, hg.output.trans h.output, Nat.le_trans h.size hg.size, fun i hi hn => (hg.block i (Nat.lt_of_lt_of_le hi h.size) (fun e => hn (hr i e.symm hi))).trans (h.block i hi hn)⟩
theorem Keeps.of_below {B : Nat} {a w : World} (h : Below B a w) : Keeps (fun k => B ≤ k) a w := ⟨h.os, h.tape, h.output, h.size, fun i _ hn => h.block i (Nat.lt_of_not_le hn)⟩
theorem Keeps.below {S : Nat → Prop} {B : Nat} {a w : World} (h : Keeps S a w) (hB : B ≤ a.heap.size) (hs : ∀ k, S k → B ≤ k) : Below B a w :=
  ⟨h.os, h.tape, h.output, h.size, fun i hi => h.block i (Nat.lt_of_lt_of_le hi hB) (fun x => Nat.lt_irrefl _ (Nat.lt_of_lt_of_le hi (hs i x)))⟩
theorem Keeps.cell {S : Nat → Prop} {w w' : World} (h : Keeps S w w') {p : Addr} {v : Value} (hc : w.cell? p = some v) (hn : ¬ S p.block) : w'.cell? p = some v :=
  (World.cell?_of_block (w := w) (h.block p.block (World.block_lt_of_cell? w p hc) hn)).trans hc
theorem Keeps.heap {S : Nat → Prop} {w w' : World} (h : Keeps S w w') {k : Nat} {o : Obj} (hc : w.heap[k]? = some o) (hn : ¬ S k) : w'.heap[k]? = some o :=
  (h.block k (Array.getElem?_eq_some_iff.1 hc).1 hn).trans hc

theorem Keeps.step {B : Nat} {F : Nat → Prop} {w wi wj : World} (K : Keeps (fun k => B ≤ k) w wi) (hF : ∀ k, F k → B ≤ k) (k : Keeps F wi wj) : Keeps (fun k => B ≤ k) w wj := K.trans k (fun i _ h => hF i h)
def Fresh (F F' : Nat → Prop) (w : World) : Prop := ∀ k, F' k → F k ∨ w.heap.size ≤ k
def Apart (F G : Nat → Prop) : Prop := ∀ k, F k → ¬ G k
def In (F : Nat → Prop) (w : World) : Prop := ∀ k, F k → k < w.heap.size
theorem Apart.symm {F G : Nat → Prop} (h : Apart F G) : Apart G F := fun k hg hf => h k hf hg
theorem Apart.fresh {F F' G : Nat → Prop} {w : World} (h : Apart F G) (hf : Fresh F F' w) (hG : In G w) : Apart F' G := fun k hk hg => by
  rcases hf k hk with x | x
  · exact h k x hg
  · exact absurd (hG k hg) (by omega)
theorem Apart.none (G : Nat → Prop) : Apart (fun _ => False) G := fun _ h => h.elim
theorem Apart.no (G : Nat → Prop) : Apart G (fun _ => False) := fun _ _ h => h
theorem In.keeps {F S : Nat → Prop} {w w' : World} (h : In F w) (hk : Keeps S w w') : In F w' := fun k x => Nat.lt_of_lt_of_le (h k x) hk.size
theorem Fresh.refl (F : Nat → Prop) (w : World) : Fresh F F w := fun _ h => .inl h
theorem Fresh.trans {F G H S : Nat → Prop} {w w1 : World} (h : Fresh F G w) (k : Fresh G H w1) (hk : Keeps S w w1) : Fresh F H w := fun i hi => by
  rcases k i hi with x | x
  · exact h i x
  · exact .inr (Nat.le_trans hk.size x)
theorem Fresh.ge {F F' : Nat → Prop} {w : World} {B : Nat} (h : Fresh F F' w) (hF : ∀ k, F k → B ≤ k) (hB : B ≤ w.heap.size) : ∀ k, F' k → B ≤ k := fun k hk => by
  rcases h k hk with x | x
  · exact hF k x
  · omega
theorem Keeps.fresh {F F' : Nat → Prop} {w w1 w2 : World} (h : Keeps F w w1) (hf : Fresh F F' w) (k : Keeps F' w1 w2) : Keeps F w w2 :=
  h.trans k (fun i hi hx => by rcases hf i hx with x | x; exact x; omega)

def Row (w : World) (F : Nat → Prop) (e size : Nat) (v : Value) (n : Nat) (xs : List Value) : Prop := w.ownsRow 0 e size v n xs ∧ ∀ k, v.ownBlock = some k → F k
theorem Row.nil (w : World) (F : Nat → Prop) (e size : Nat) : Row w F e size (.slice none 0 0) 0 [] := ⟨w.ownsRow_nil 0 e size, by simp [Value.ownBlock]⟩
theorem Row.lt {w : World} {F : Nat → Prop} {e size n : Nat} {v : Value} {xs : List Value} (h : Row w F e size v n xs) : ∀ k, v.ownBlock = some k → k < w.heap.size := fun k hk => (h.1.lt k hk).2
theorem Row.mono {w : World} {F G : Nat → Prop} {e size n : Nat} {v : Value} {xs : List Value} (h : Row w F e size v n xs) (hG : ∀ k, k < w.heap.size → F k → G k) : Row w G e size v n xs := ⟨h.1, fun k hk => hG k (h.lt k hk) (h.2 k hk)⟩
theorem ownsRow_move {w w1 : World} {base e size n : Nat} {v : Value} {xs : List Value} (h : w.ownsRow base e size v n xs) (hm : ∀ k, v.ownBlock = some k → w1.heap[k]? = w.heap[k]?) : w1.ownsRow base e size v n xs := by
  refine ⟨h.1, ?_⟩
  rcases h.2 with h2 | ⟨g, cap, cur, rfl, hb, hh, r⟩
  · exact .inl h2
  · exact .inr ⟨g, cap, cur, rfl, hb, (hm g rfl).trans hh, r⟩
theorem Row.keeps {w w1 : World} {F S : Nat → Prop} {e size n : Nat} {v : Value} {xs : List Value} (h : Row w F e size v n xs) (hk : Keeps S w w1) (hn : Apart F S) : Row w1 F e size v n xs :=
  ⟨ownsRow_move h.1 (fun k hb => hk.block k (h.lt k hb) (hn k (h.2 k hb))), h.2⟩
theorem Row.form {w : World} {F : Nat → Prop} {e size n : Nat} {v : Value} {xs : List Value} (h : Row w F e size v n xs) : ∃ A c, v = .slice A n c := by
  rcases h.1.2 with ⟨rfl, rfl⟩ | ⟨g, cap, cur, rfl, _⟩
  · exact ⟨_, _, rfl⟩
  · exact ⟨_, _, rfl⟩
theorem blk_cell {w : World} {g : Nat} {t : TypeId} {cs : Array Value} {z : Nat × Nat} (h : w.heap[g]? = some (.cells cs t z)) (i : Nat) : w.cell? ⟨g, i, none⟩ = cs[i]? := cell_of_row w g i cs t z h
theorem blk_frozen {w : World} {g : Nat} {t : TypeId} {cs : Array Value} (h : w.heap[g]? = some (.cells cs t (0, 0))) (i : Nat) : w.frozen? ⟨g, i, none⟩ = false := by simp [World.frozen?, h]
theorem blk_lt {w : World} {g : Nat} {o : Obj} (h : w.heap[g]? = some o) : g < w.heap.size := (Array.getElem?_eq_some_iff.1 h).1
theorem blk_set {w : World} {g : Nat} {t : TypeId} {cs : Array Value} (h : w.heap[g]? = some (.cells cs t (0, 0))) (i : Nat) (u : Value) : (w.setCell ⟨g, i, none⟩ u).heap[g]? = some (.cells (cs.setIfInBounds i u) t (0, 0)) := by
  simp [World.setCell, Array.getElem?_modify, h]
theorem blk_far {w : World} {g : Nat} {o : Obj} (h : w.heap[g]? = some o) {p : Addr} (hp : g ≠ p.block) (u : Value) : (w.setCell p u).heap[g]? = some o := (Below.heap_setCell w p u g hp).trans h
theorem blk_alloc {w : World} {g : Nat} {o : Obj} (h : w.heap[g]? = some o) (o' : Obj) : (w.alloc o').heap[g]? = some o := (Below.heap_alloc w o' g (blk_lt h)).trans h
theorem blk_new (w : World) (o : Obj) : (w.alloc o).heap[w.heap.size]? = some o := heap_alloc_new w o
theorem blk_ne {w : World} {g g' : Nat} {t t' : TypeId} {cs cs' : Array Value} {z z' : Nat × Nat} (h : w.heap[g]? = some (.cells cs t z)) (h' : w.heap[g']? = some (.cells cs' t' z')) (hne : t ≠ t') : g ≠ g' := by
  rintro rfl
  rw [h] at h'
  simp at h'
  exact hne h'.2.1
theorem own_typed {w : World} {base e size n : Nat} {v : Value} {xs : List Value} (h : w.ownsRow base e size v n xs) (k : Nat) (hk : v.ownBlock = some k) : ∃ cs, w.heap[k]? = some (.cells cs e (0, 0)) := by
  rcases h.2 with ⟨rfl, _⟩ | ⟨g, cap, cur, rfl, _, hg, _⟩
  · simp [Value.ownBlock] at hk
  · simp [Value.ownBlock] at hk
    subst hk
    exact ⟨cur, hg⟩
theorem own_ne {w : World} {base e size n : Nat} {v : Value} {xs : List Value} (h : w.ownsRow base e size v n xs) {g t : Nat} {cs : Array Value} {z : Nat × Nat} (hg : w.heap[g]? = some (.cells cs t z)) (hne : e ≠ t) : ∀ k, v.ownBlock = some k → k ≠ g := by
  rintro k hk rfl
  obtain ⟨cs', h'⟩ := own_typed h k hk
  exact blk_ne h' hg hne rfl
theorem Row.set {w : World} {F : Nat → Prop} {e size n : Nat} {v : Value} {xs : List Value} (h : Row w F e size v n xs) {p : Addr} (hn : ∀ k, v.ownBlock = some k → k ≠ p.block) (u : Value) : Row (w.setCell p u) F e size v n xs :=
  ⟨ownsRow_move h.1 (fun k hb => Below.heap_setCell w p u k (hn k hb)), h.2⟩
theorem Row.drew {w : World} {F : Nat → Prop} {e size n : Nat} {v : Value} {xs : List Value} (h : Row w F e size v n xs) : Row w.drew F e size v n xs := ⟨ownsRow_move h.1 (fun _ _ => rfl), h.2⟩
theorem Row.drewN {w : World} {F : Nat → Prop} {e size n : Nat} {v : Value} {xs : List Value} (h : Row w F e size v n xs) (m : Nat) : Row (w.drewN m) F e size v n xs := ⟨ownsRow_move h.1 (fun _ _ => rfl), h.2⟩
theorem Row.alloc {w : World} {F : Nat → Prop} {e size n : Nat} {v : Value} {xs : List Value} (h : Row w F e size v n xs) (o : Obj) : Row (w.alloc o) F e size v n xs := ⟨ownsRow_move h.1 (fun k hb => Below.heap_alloc w o k (h.lt k hb)), h.2⟩
theorem Row.ne {w : World} {F : Nat → Prop} {e size n : Nat} {v : Value} {xs : List Value} (h : Row w F e size v n xs) {g t : Nat} {cs : Array Value} {z : Nat × Nat} (hg : w.heap[g]? = some (.cells cs t z)) (hne : e ≠ t) : ∀ k, v.ownBlock = some k → k ≠ g := own_ne h.1 hg hne

theorem Row.cap {w : World} {F : Nat → Prop} {e size n c : Nat} {A : Option Addr} {xs : List Value} (h : Row w F e size (.slice A n c) n xs) : n ≤ c := by
  rcases h.1.2 with ⟨h1, rfl⟩ | ⟨g, cap, cur, h1, _, _, hc, _⟩
  · exact Nat.zero_le _
  · simp at h1
    omega
theorem Row.take {w : World} {F : Nat → Prop} {e size n m c : Nat} {A : Option Addr} {xs : List Value} (h : Row w F e size (.slice A n c) n xs) (hm : m ≤ n) : Row w F e size (.slice A m c) m (xs.take (m * size)) := by
  have hl : (xs.take (m * size)).length = m * size := by
    rw [List.length_take, h.1.1]
    exact Nat.min_eq_left (Nat.mul_le_mul_right _ hm)
  refine ⟨⟨hl, ?_⟩, fun k hk => h.2 k (by cases A with | none => simp [Value.ownBlock] at hk | some a => exact hk)⟩
  rcases h.1.2 with ⟨h1, rfl⟩ | ⟨g, cap, cur, h1, hb, hg, hc, hx, hs, ht⟩
  · simp at h1
    obtain rfl : m = 0 := by omega
    exact .inl ⟨by simp [h1], rfl⟩
  · simp at h1
    obtain ⟨rfl, rfl⟩ := h1
    refine .inr ⟨g, c, cur, rfl, hb, hg, by omega, hx, hs, ?_⟩
    rw [← ht, List.take_take]
    congr 1
    exact (Nat.min_eq_left (Nat.mul_le_mul_right _ hm)).symm

theorem Row.made0 (w : World) (e size : Nat) : Row (w.alloc (.cells #[] e)) (fun k => k = w.heap.size) e size (.slice (some ⟨w.heap.size, 0, none⟩) 0 0) 0 [] :=
  ⟨World.ownsRow_made w #[] 0 (Nat.zero_le _) (Nat.zero_le _) (by simp), fun k hk => by simpa [Value.ownBlock] using hk.symm⟩

/-! append, of whatever, onto a row of the call's own -/
section
variable {P : Program}
theorem app_run (w : World) (F : Nat → Prop) (t tx ty e : TypeId) (z : Value) (size bytes : Nat) (ht : P.underlying t = some (.slice e)) (hinfo : (P.info? e).map (fun i => (i.zero, i.size, i.bytes)) = some (some z, size, bytes)) (hzs : z.cells.size = size) (hsz : 0 < size)
    (v : Value) (n : Nat) (xs : List Value) (hR : Row w F e size v n xs) (x : Value) (m : Nat) (news : List Value) (hs : Src P size tx x m news w) (hb0 : n + m ≤ 9223372036854775807) (hbytes : (n + m) * bytes ≤ 140737488355328) :
    ∃ A c w1, (Builtin.append_ #[t, tx] ty #[v, x]).run P w = .ok (.slice A (n + m) c) w1 ∧ Row w1 (fun k => F k ∨ w.heap.size ≤ k) e size (.slice A (n + m) c) (n + m) (xs ++ news) ∧ Keeps (fun k => v.ownBlock = some k) w w1 := by
  obtain ⟨i, hi, hz, hsize, hby⟩ := info_parts hinfo
  subst hsize hby
  have hlen : (xs ++ news).length = (n + m) * i.size := by rw [List.length_append, hR.1.1, hs.newsLen, Nat.add_mul]
  have hmax : n + m ≤ maxLen := by unfold maxLen; omega
  have grown : ∀ (old : Nat), old < n + m → ∃ A c, (.slice (some ⟨w.heap.size, 0, none⟩) (n + m) (grownCap w (n + m) old e) : Value) = .slice A (n + m) c ∧
      Row (w.drew.alloc (.cells ((xs ++ news).toArray ++ Builtin.zeroCells z.cells (grownCap w (n + m) old e - (n + m))) e)) (fun k => F k ∨ w.heap.size ≤ k) e i.size (.slice A (n + m) c) (n + m) (xs ++ news) := by
    intro old ho
    have hge := grownCap_ge w (n + m) old e
    have hcm : grownCap w (n + m) old e ≤ maxLen := grownCap_le_maxLen w (n + m) old e hmax
    refine ⟨_, _, rfl, ⟨hlen, .inr ⟨w.heap.size, _, _, rfl, Nat.zero_le _, heap_alloc_new w.drew _, hge, hcm, ?_, ?_⟩⟩, fun k hk => ?_⟩
    · simp only [Array.size_append, List.size_toArray, size_zeroCells, hzs, hlen]
      rw [← Nat.add_mul]
      congr 1
      omega
    · simp only [Array.toList_append]
      rw [← hlen]
      exact List.take_left
    · simp [Value.ownBlock] at hk
      omega
  rcases hR.1.2 with ⟨rfl, rfl⟩ | ⟨g, cap, cur, rfl, _, hg, hnc, hcm, hcs, htake⟩
  · obtain rfl : xs = [] := List.eq_nil_of_length_eq_zero (by simpa using hR.1.1)
    by_cases hm : m = 0
    · subst hm
      obtain rfl : news = [] := List.eq_nil_of_length_eq_zero (by simpa using hs.newsLen)
      refine ⟨none, 0, w, ?_, Row.nil _ _ _ _, Keeps.refl _ _⟩
      rcases hs.kind with ⟨e', hk⟩ | hk <;> simp [Builtin.append_, run_underlying ht, run_underlying hk, sizeOf, typeInfo, hi, hs.len, hs.cells]
    · have hr := run_append_grow_src w t tx ty e i z ht hi hz none 0 0 [] (run_firstCells_none w.drew i.size 0 0 0) x m news hs (by omega) (by omega) (growslice_fits (by omega) hbytes)
      obtain ⟨A, c, he, hrow⟩ := grown 0 (by omega)
      exact ⟨A, c, _, by rw [← he]; exact hr, hrow, (Keeps.refl _ _).drew.alloc _⟩
  · by_cases hroom : n + m ≤ cap
    · have hfit : n * i.size + news.length ≤ cur.size := by rw [hs.newsLen, hcs, ← Nat.add_mul]; exact Nat.mul_le_mul_right _ hroom
      have hrun : (Builtin.append_ #[t, tx] ty #[.slice (some ⟨g, 0, none⟩) n cap, x]).run P w = .ok (.slice (some ⟨g, 0, none⟩) (n + m) cap) (w.setRow g (cur.toList.take (n * i.size) ++ news ++ cur.toList.drop (n * i.size + news.length)).toArray) := by
        have hst := run_storeCells_at P g (n * i.size) e news 0 cur w hg (by simpa using hfit) hs.one
        simp only [Nat.add_zero] at hst
        rcases hs.kind with ⟨e', hk⟩ | hk <;> simp [Builtin.append_, run_underlying ht, run_underlying hk, sizeOf, typeInfo, hi, hs.len, hroom, hs.cells, Addr.add_lit, hst]
      refine ⟨_, _, _, hrun, ⟨⟨hlen, .inr ⟨g, cap, _, rfl, Nat.zero_le _, setRow_heap w g cur _ e _ hg, hroom, hcm, ?_, ?_⟩⟩, fun k hk => .inl (hR.2 k hk)⟩, ⟨rfl, rfl, rfl, by simp, fun k _ hk => setRow_other w g k _ (fun e => hk (by simp [Value.ownBlock, e]))⟩⟩
      · simp only [List.size_toArray, List.length_append, List.length_take, List.length_drop, Array.length_toList]
        omega
      · rw [htake, ← hlen]
        exact List.take_left
    · have holds : ∀ j u, xs[j]? = some u → w.cell? ((⟨g, 0, none⟩ : Addr).add j) = some u := hR.1.cells (g := g) rfl
      have hr := run_append_grow_src w t tx ty e i z ht hi hz (some ⟨g, 0, none⟩) n cap xs (run_firstCells_some w.drew i.size n ⟨g, 0, none⟩ n cap xs hR.1.1 (by simpa using holds)) x m news hs (by omega) (by omega) (growslice_fits (by omega) hbytes)
      obtain ⟨A, c, he, hrow⟩ := grown cap (by omega)
      exact ⟨A, c, _, by rw [← he]; exact hr, hrow, (Keeps.refl _ _).drew.alloc _⟩

variable {ops : Array Oper} {o : Oper} {a : Act} {Q : Exit → Act → World → Prop} {w : World}
theorem app_wp {K : Act → World → Prop} (F : Nat → Prop) (s x : Operand) (t tx e : TypeId) (z : Value) (size bytes : Nat) (ho : o.op = .call { callee := .builtin .append, args := #[s, x], argTypes := #[t, tx] })
    (ht : P.underlying t = some (.slice e)) (hinfo : (P.info? e).map (fun i => (i.zero, i.size, i.bytes)) = some (some z, size, bytes)) (hzs : z.cells.size = size) (hsz : 0 < size)
    (v : Value) (n : Nat) (xs : List Value) (hv : a.eval s = v) (hR : Row w F e size v n xs) (xv : Value) (hx : a.eval x = xv) (m : Nat) (news : List Value) (hs : Src P size tx xv m news w) (hb0 : n + m ≤ 9223372036854775807) (hbytes : (n + m) * bytes ≤ 140737488355328)
    (h : ∀ A c w1, Row w1 (fun k => F k ∨ w.heap.size ≤ k) e size (.slice A (n + m) c) (n + m) (xs ++ news) → Keeps (fun k => v.ownBlock = some k) w w1 → K (a.put o.dst (.slice A (n + m) c)) w1) : o.wp P a w K Q := by
  obtain ⟨A, c, w1, hr, h1, h2⟩ := app_run w F t tx o.type e z size bytes ht hinfo hzs hsz v n xs hR xv m news hs hb0 hbytes
  unfold Oper.wp execOp
  simp only [ho, resolve, invoke, builtin, Sem.run_bind, Sem.run_pure, Result.andThen_ok, List.map_toArray, List.map_cons, List.map_nil, hv, hx, hr]
  exact h A c w1 h1 h2
theorem app_list {rest : List Oper} (hg : o.guard = none) (F : Nat → Prop) (s x : Operand) (t tx e : TypeId) (z : Value) (size bytes : Nat) (ho : o.op = .call { callee := .builtin .append, args := #[s, x], argTypes := #[t, tx] })
    (ht : P.underlying t = some (.slice e)) (hinfo : (P.info? e).map (fun i => (i.zero, i.size, i.bytes)) = some (some z, size, bytes)) (hzs : z.cells.size = size) (hsz : 0 < size)
    (v : Value) (n : Nat) (xs : List Value) (hv : a.eval s = v) (hR : Row w F e size v n xs) (xv : Value) (hx : a.eval x = xv) (m : Nat) (news : List Value) (hs : Src P size tx xv m news w) (hb0 : n + m ≤ 9223372036854775807) (hbytes : (n + m) * bytes ≤ 140737488355328)
    (h : ∀ A c w1, Row w1 (fun k => F k ∨ w.heap.size ≤ k) e size (.slice A (n + m) c) (n + m) (xs ++ news) → Keeps (fun k => v.ownBlock = some k) w w1 → wpList P ops Q rest (a.put o.dst (.slice A (n + m) c)) w1) : wpList P ops Q (o :: rest) a w :=
  wpList_plain hg fun _ hK => app_wp F s x t tx e z size bytes ho ht hinfo hzs hsz v n xs hv hR xv hx m news hs hb0 hbytes fun A c w1 h1 h2 => hK _ _ (h A c w1 h1 h2)
theorem app_step {K : Act → World → Prop} {E : Prop} (hg : o.guard = none) (F : Nat → Prop) (s x : Operand) (t tx e : TypeId) (z : Value) (size bytes : Nat) (ho : o.op = .call { callee := .builtin .append, args := #[s, x], argTypes := #[t, tx] })
    (ht : P.underlying t = some (.slice e)) (hinfo : (P.info? e).map (fun i => (i.zero, i.size, i.bytes)) = some (some z, size, bytes)) (hzs : z.cells.size = size) (hsz : 0 < size)
    (v : Value) (n : Nat) (xs : List Value) (hv : a.eval s = v) (hR : Row w F e size v n xs) (xv : Value) (hx : a.eval x = xv) (m : Nat) (news : List Value) (hs : Src P size tx xv m news w) (hb0 : n + m ≤ 9223372036854775807) (hbytes : (n + m) * bytes ≤ 140737488355328)
    (h : ∀ A c w1, Row w1 (fun k => F k ∨ w.heap.size ≤ k) e size (.slice A (n + m) c) (n + m) (xs ++ news) → Keeps (fun k => v.ownBlock = some k) w w1 → K (a.put o.dst (.slice A (n + m) c)) w1) :
    if Region.wanted o (yielded ops a.tmps) = true then Oper.wp P o a w K Q else E := by
  have hw : Region.wanted o (yielded ops a.tmps) = true := by simp [Region.wanted, hg]
  rw [if_pos hw]
  exact app_wp F s x t tx e z size bytes ho ht hinfo hzs hsz v n xs hv hR xv hx m news hs hb0 hbytes h
end

structure SameBut (b : Nat) (w1 w2 : World) : Prop where
  os : w2.os = w1.os
  tape : w2.tape = w1.tape
  output : w2.output = w1.output
  size : w2.heap.size = w1.heap.size
  block : ∀ k, k ≠ b → w2.heap[k]? = w1.heap[k]?
theorem SameBut.refl (b : Nat) (w : World) : SameBut b w w := ⟨rfl, rfl, rfl, rfl, fun _ _ => rfl⟩
theorem SameBut.set {b : Nat} {w1 w2 : World} (h : SameBut b w1 w2) (i : Nat) (u : Value) : SameBut b w1 (w2.setCell ⟨b, i, none⟩ u) :=
  ⟨h.os, h.tape, h.output, by simp [World.setCell, h.size], fun k hk => (Below.heap_setCell w2 ⟨b, i, none⟩ u k hk).trans (h.block k hk)⟩
theorem SameBut.drew {b : Nat} {w1 w2 : World} (h : SameBut b w1 w2) : SameBut b w1 w2.drew := ⟨h.os, h.tape, h.output, h.size, h.block⟩
theorem SameBut.drewN {b : Nat} {w1 w2 : World} (h : SameBut b w1 w2) (n : Nat) : SameBut b w1 (w2.drewN n) := ⟨h.os, h.tape, h.output, h.size, h.block⟩
theorem SameBut.keeps {b : Nat} {w1 w2 : World} (h : SameBut b w1 w2) : Keeps (fun k => k = b) w1 w2 := ⟨h.os, h.tape, h.output, Nat.le_of_eq h.size.symm, fun k _ hn => h.block k hn⟩

theorem upd_end {wr w1 w2 : World} {F : Nat → Prop} {b m e size n n1 : Nat} {v v1 : Value} {xs ys : List Value} (hin : In F wr) (hb : F b) (hR : Row wr F e size v n xs)
    (hR1 : Row w1 (fun k => F k ∨ wr.heap.size ≤ k) e size v1 n1 ys) (hK1 : Keeps (fun k => v.ownBlock = some k) (wr.drewN m) w1) (hne : ∀ k, v1.ownBlock = some k → k ≠ b) (h2 : SameBut b w1 w2) :
    ∃ F2, Row w2 F2 e size v1 n1 ys ∧ F2 b ∧ In F2 w2 ∧ Keeps F wr w2 ∧ Fresh F F2 wr := by
  have hs := hK1.size
  simp only [World.heap_drewN] at hs
  refine ⟨fun k => (F k ∨ wr.heap.size ≤ k) ∧ k < w2.heap.size, ⟨ownsRow_move hR1.1 (fun k hk => h2.block k (hne k hk)), fun k hk => ⟨hR1.2 k hk, by rw [h2.size]; exact hR1.lt k hk⟩⟩, ⟨.inl hb, ?_⟩, fun k hk => hk.2, ?_, fun k hk => hk.1⟩
  · have := hin b hb
    rw [h2.size]; omega
  · have k0 : Keeps (fun k => v.ownBlock = some k) wr w1 := ⟨hK1.os, hK1.tape, hK1.output, hK1.size, hK1.block⟩
    exact (k0.mono (fun i _ hi => hR.2 i hi)).trans h2.keeps (fun i _ hi => hi ▸ hb)

def Drew (w w' : World) : Prop := ∃ n, w' = w.drewN n
theorem Drew.refl (w : World) : Drew w w := ⟨0, rfl⟩
theorem Drew.drewN {w w' : World} (h : Drew w w') (m : Nat) : Drew w (w'.drewN m) := by
  obtain ⟨n, rfl⟩ := h
  exact ⟨n + m, by simp [World.drewN, Nat.add_assoc]⟩
theorem Drew.drew {w w' : World} (h : Drew w w') : Drew w w'.drew := by
  obtain ⟨n, rfl⟩ := h
  exact ⟨n + 1, by simp [World.drewN, World.drew, Nat.add_assoc]⟩
theorem Drew.keeps {w w' : World} (h : Drew w w') (S : Nat → Prop) : Keeps S w w' := by
  obtain ⟨n, rfl⟩ := h
  exact (Keeps.refl S w).drewN n
theorem Drew.trans {w w1 w2 : World} (h : Drew w w1) (k : Drew w1 w2) : Drew w w2 := by
  obtain ⟨n, rfl⟩ := k
  exact h.drewN n
theorem post_gen {P : Program} {f : FuncId} {args : Array Value} {w : World} {R : Ending → World → Prop} (h : ∀ R' : Ending → World → Prop, Hid (∀ e w', R e w' → R' e w') → Calls P f args w R') : Calls P f args w R := h R (fun _ _ x => x)
theorem hidden {p : Prop} (h : p) : Hid p := h
theorem ret_int {k : IntKind} {a b : Int} (h : a = b) : Ending.returned (.int k a) = .returned (.int k b) := by rw [h]
theorem ret_bool {a b : Bool} (h : a = b) : Ending.returned (.bool a) = .returned (.bool b) := by rw [h]
end Go.Proofs.Ytfdfjogoiagnkaa
namespace Go.Proofs.Ytfdfjogoiagnkaa
open Go.RowKit

structure V where
  k : Int
  n : Int
  t : ByteArray
  deriving DecidableEq
def V.cells (v : V) : List Value := [.int .i64 v.k, .int .i64 v.n, .string v.t]
def V.val (v : V) : Value := .agg #[.int .i64 v.k, .int .i64 v.n, .string v.t]
def V.null : V := ⟨0, 0, ⟨#[]⟩⟩
def flat (xs : List V) : List Value := xs.flatMap V.cells
theorem flat_length (xs : List V) : (flat xs).length = xs.length * 3 := by
  induction xs with
  | nil => rfl
  | cons x xs ih => simp only [flat, List.flatMap_cons, List.length_append] at ih ⊢; rw [ih]; simp [V.cells]; omega
theorem flat_one (xs : List V) : ∀ u ∈ flat xs, u.oneCell' = true := by
  intro u hu
  simp only [flat, List.mem_flatMap] at hu
  obtain ⟨v, _, h⟩ := hu
  simp [V.cells] at h
  rcases h with rfl | rfl | rfl <;> rfl
theorem flat_get (xs : List V) : ∀ (i : Nat) (x : V), xs[i]? = some x → ∀ j, j < 3 → (flat xs)[i * 3 + j]? = x.cells[j]? := by
  induction xs with
  | nil => intro i x h; simp at h
  | cons y xs ih =>
    intro i x h j hj
    have e : flat (y :: xs) = y.cells ++ flat xs := by simp [flat]
    rw [e]
    cases i with
    | zero =>
      simp at h
      subst h
      rw [List.getElem?_append_left (by simp [V.cells]; omega)]
      simp
    | succ i =>
      simp at h
      rw [List.getElem?_append_right (by simp [V.cells]; omega)]
      have := ih i x h j hj
      rw [← this]
      congr 1
      simp [V.cells]; omega
theorem info_val : (Try.prog.info? 26).map (fun i => (i.zero, i.size, i.bytes)) = some (some (.agg #[.int .i64 0, .int .i64 0, .string ⟨#[]⟩]), 3, 32) := by kernel_rfl

theorem value_Int (n : Int) (w : World) : Calls Try.prog 17 #[.int .i64 n] w fun e w' => e = .returned (V.val ⟨2, n, ⟨#[]⟩⟩) ∧ Keeps (fun _ => False) w w' := by
  refine post_gen fun R hR => ?_
  go_enter Try.func17, Try.ntmps17
  go_wp2
  exact bodyPost_ret (v := V.val ⟨2, n, ⟨#[]⟩⟩) (by simp [results, Try.results17, go_sem, V.val]) rfl (hR.out _ _ ⟨rfl, (Keeps.refl _ _).alloc _⟩)
theorem value_Str (s : ByteArray) (w : World) : Calls Try.prog 34 #[.string s] w fun e w' => e = .returned (V.val ⟨3, 0, s⟩) ∧ Keeps (fun _ => False) w w' := by
  refine post_gen fun R hR => ?_
  go_enter Try.func34, Try.ntmps34
  go_wp2
  exact bodyPost_ret (v := V.val ⟨3, 0, s⟩) (by simp [results, Try.results34, go_sem, V.val]) rfl (hR.out _ _ ⟨rfl, (Keeps.refl _ _).alloc _⟩)
theorem value_Null (w : World) : Calls Try.prog 12 #[] w fun e w' => e = .returned (V.val V.null) ∧ Keeps (fun _ => False) w w' := by
  refine post_gen fun R hR => ?_
  go_enter Try.func12, Try.ntmps12
  go_wp2
  exact bodyPost_ret (v := V.val V.null) (by simp [results, Try.results12, go_sem, V.val, V.null]) rfl (hR.out _ _ ⟨rfl, (Keeps.refl _ _).alloc _⟩)

def V.chk (v : V) : Int :=
  if v.k < 0 ∨ 4 < v.k then 30 else if (v.k ≠ 3 ∧ v.t.toList ≠ []) ∨ ((v.k = 0 ∨ v.k = 3) ∧ v.n ≠ 0) ∨ (v.k = 1 ∧ v.n ≠ 0 ∧ v.n ≠ 1) ∨ (v.k = 4 ∧ v.n < 0) then 5 else 0
theorem value_Check (v : V) (w : World) : Calls Try.prog 49 #[v.val] w fun e w' => e = .returned (.int .i64 v.chk) ∧ Keeps (fun _ => False) w w' := by
  obtain ⟨k, n, t⟩ := v
  unfold V.val
  refine post_gen fun R hR => ?_
  go_enter Try.func49, Try.ntmps49
  go_wp2
  all_goals
    refine hR.out _ _ ⟨show Ending.returned (.int .i64 _) = .returned (.int .i64 _) from ret_int ?_, (Keeps.refl _ _).alloc _⟩
    clear hR
    simp only [V.chk]
    first
      | (simp_all; done)
      | (rw [if_neg (by omega), if_neg (by simp_all; done)]; done)
      | (rw [if_neg (by omega), if_neg (by simp_all; omega)]; done)
      | (rw [if_neg (by omega), if_pos (by simp_all; done)]; done)
      | (rw [if_neg (by omega), if_pos (by simp_all; omega)]; done)
      | (rw [if_pos (by omega)]; done)
def IsVar (w : World) (r : Nat) (v : V) : Prop := w.heap[r]? = some (.cells #[.int .i64 v.k, .int .i64 v.n, .string v.t] 26 (0, 0))
theorem IsVar.new (w : World) (v : V) : IsVar (w.alloc (.cells #[.int .i64 v.k, .int .i64 v.n, .string v.t] 26)) w.heap.size v := blk_new _ _
theorem IsVar.keeps {w w1 : World} {r : Nat} {v : V} {S : Nat → Prop} (h : IsVar w r v) (hk : Keeps S w w1) (hn : ¬ S r) : IsVar w1 r v := hk.heap h hn
theorem IsVar.cells {w : World} {r : Nat} {v : V} (h : IsVar w r v) : w.cell? ⟨r, 0, none⟩ = some (.int .i64 v.k) ∧ w.cell? ⟨r, 1, none⟩ = some (.int .i64 v.n) ∧ w.cell? ⟨r, 2, none⟩ = some (.string v.t) ∧ w.frozen? ⟨r, 0, none⟩ = false ∧ w.frozen? ⟨r, 1, none⟩ = false ∧ w.frozen? ⟨r, 2, none⟩ = false :=
  ⟨blk_cell h 0, blk_cell h 1, blk_cell h 2, blk_frozen h 0, blk_frozen h 1, blk_frozen h 2⟩
theorem IsVar.set {w : World} {r : Nat} {v : V} (h : IsVar w r v) (u : V) : IsVar (((w.setCell ⟨r, 0, none⟩ (.int .i64 u.k)).setCell ⟨r, 1, none⟩ (.int .i64 u.n)).setCell ⟨r, 2, none⟩ (.string u.t)) r u := blk_set (blk_set (blk_set h 0 _) 1 _) 2 _
theorem Keeps.var {S : Nat → Prop} {a w : World} (h : Keeps S a w) {r : Nat} (hr : r < a.heap.size → S r) (x y z : Value) : Keeps S a (((w.setCell ⟨r, 0, none⟩ x).setCell ⟨r, 1, none⟩ y).setCell ⟨r, 2, none⟩ z) :=
  ((h.setCell (p := ⟨r, 0, none⟩) hr x).setCell (p := ⟨r, 1, none⟩) hr y).setCell (p := ⟨r, 2, none⟩) hr z
end Go.Proofs.Ytfdfjogoiagnkaa
namespace Go.Proofs.Ytfdfjogoiagnkaa
open Go.RowKit

def Vals (w : World) (A : Option Addr) (xs : List V) : Prop := ∀ i x, xs[i]? = some x → ∃ b o, A = some ⟨b, o, none⟩ ∧ w.cell? ⟨b, o + i * 3, none⟩ = some (.int .i64 x.k) ∧ w.cell? ⟨b, o + i * 3 + 1, none⟩ = some (.int .i64 x.n) ∧ w.cell? ⟨b, o + i * 3 + 2, none⟩ = some (.string x.t)
theorem Vals.nil (w : World) (A : Option Addr) : Vals w A [] := fun i x h => by simp at h
theorem Vals.keeps {w w1 : World} {S : Nat → Prop} {A : Option Addr} {xs : List V} (h : Vals w A xs) (hk : Keeps S w w1) (hn : 0 < xs.length → ∀ b o, A = some ⟨b, o, none⟩ → ¬ S b) : Vals w1 A xs := fun i x hi => by
  obtain ⟨b, o, rfl, h1, h2, h3⟩ := h i x hi
  have hb := hn (by have := (List.getElem?_eq_some_iff.1 hi).1; omega) b o rfl
  exact ⟨b, o, rfl, hk.cell h1 hb, hk.cell h2 hb, hk.cell h3 hb⟩
theorem Vals.lt {w : World} {A : Option Addr} {xs : List V} (h : Vals w A xs) : 0 < xs.length → ∀ b o, A = some ⟨b, o, none⟩ → b < w.heap.size := by
  intro h0 b o hA
  obtain ⟨b', o', he, hc, _⟩ := h 0 _ (List.getElem?_eq_getElem h0)
  rw [hA] at he
  simp at he
  obtain ⟨rfl, rfl⟩ := he
  exact World.block_lt_of_cell? w _ hc
theorem Vals.below {w w1 : World} {A : Option Addr} {xs : List V} (h : Vals w A xs) (hb : Below w.heap.size w w1) : Vals w1 A xs :=
  h.keeps (Keeps.of_below hb) (fun h0 b o hA hS => by have := h.lt h0 b o hA; omega)
theorem add_at3 (g o j : Nat) : (⟨g, o, none⟩ : Addr).add j = ⟨g, o + j, none⟩ := by unfold Addr.add; split <;> simp_all
theorem flat_at {xs : List V} {j : Nat} {u : Value} (h : (flat xs)[j]? = some u) : ∃ x, xs[j / 3]? = some x ∧ x.cells[j % 3]? = some u := by
  have hl := (List.getElem?_eq_some_iff.1 h).1
  rw [flat_length] at hl
  have hi : j / 3 < xs.length := by omega
  refine ⟨xs[j / 3], List.getElem?_eq_getElem hi, ?_⟩
  have := flat_get xs (j / 3) _ (List.getElem?_eq_getElem hi) (j % 3) (by omega)
  rw [← this, ← h]
  congr 1
  omega
theorem Vals.src {P : Program} {w : World} {A : Option Addr} {xs : List V} {c : Nat} {tx e : TypeId} (h : Vals w A xs) (hk : P.underlying tx = some (.slice e)) : Src P 3 tx (.slice A xs.length c) xs.length (flat xs) w := by
  cases hs : xs with
  | nil =>
    cases A with
    | none => exact Src.ofNil w hk c
    | some a => exact Src.ofSlice w hk a 0 c [] rfl (by simp) (by simp)
  | cons s l =>
    obtain ⟨b, o, rfl, _⟩ := h 0 s (by simp [hs])
    rw [← hs]
    refine Src.ofSlice w hk _ _ c _ (flat_length xs) ?_ (flat_one xs)
    intro j u hu
    obtain ⟨x, h1, h2⟩ := flat_at hu
    obtain ⟨b', o', he, hc1, hc2, hc3⟩ := h _ x h1
    simp at he
    obtain ⟨rfl, rfl⟩ := he
    rw [add_at3]
    have hj : j % 3 = 0 ∨ j % 3 = 1 ∨ j % 3 = 2 := by omega
    rcases hj with hj | hj | hj <;> rw [hj] at h2 <;> simp [V.cells] at h2 <;> subst h2
    · rw [show o + j = o + j / 3 * 3 by omega]; exact hc1
    · rw [show o + j = o + j / 3 * 3 + 1 by omega]; exact hc2
    · rw [show o + j = o + j / 3 * 3 + 2 by omega]; exact hc3
theorem Vals.own {w : World} {base e n c : Nat} {A : Option Addr} {xs : List V} (h : w.ownsRow base e 3 (.slice A n c) n (flat xs)) : Vals w A xs := fun i x hi => by
  have hil := (List.getElem?_eq_some_iff.1 hi).1
  rcases h.2 with ⟨h1, h2⟩ | ⟨g, cap, cur, h1, _⟩
  · have := h.1
    rw [flat_length] at this
    omega
  · simp at h1
    obtain ⟨rfl, rfl⟩ := h1
    have hc := h.cells (g := g) rfl
    refine ⟨g, 0, rfl, ?_, ?_, ?_⟩
    · have := hc (i * 3 + 0) _ ((flat_get xs i x hi 0 (by omega)).trans rfl)
      rwa [add_at3] at this
    · have := hc (i * 3 + 1) _ ((flat_get xs i x hi 1 (by omega)).trans rfl)
      rwa [add_at3, ← Nat.add_assoc] at this
    · have := hc (i * 3 + 2) _ ((flat_get xs i x hi 2 (by omega)).trans rfl)
      rwa [add_at3, ← Nat.add_assoc] at this
theorem Vals.lit (w : World) (xs : List V) (t : TypeId) {n : Nat} (hn : n = w.heap.size) : Vals (w.alloc (.cells (flat xs).toArray t)) (some ⟨n, 0, none⟩) xs := fun i x hi => by
  subst hn
  refine ⟨_, _, rfl, ?_, ?_, ?_⟩
  · rw [blk_cell (blk_new w _)]; simpa [V.cells] using flat_get xs i x hi 0 (by omega)
  · rw [blk_cell (blk_new w _)]; simpa [V.cells] using flat_get xs i x hi 1 (by omega)
  · rw [blk_cell (blk_new w _)]; simpa [V.cells] using flat_get xs i x hi 2 (by omega)

def cellNums (xs : List V) : List Int := (xs.filter fun x => x.k == 4).map (·.n)
def intCells (l : List Int) : List Value := l.map (.int .i64)
theorem info_int : (Try.prog.info? 3).map (fun i => (i.zero, i.size, i.bytes)) = some (some (.int .i64 0), 1, 8) := by kernel_rfl
end Go.Proofs.Ytfdfjogoiagnkaa
namespace Go.Proofs.Ytfdfjogoiagnkaa
open Go.RowKit Go.ChangeShapes Go.WideShapes
set_option maxRecDepth 100000

def V.wf (v : V) : Prop := (-9223372036854775808 ≤ v.k ∧ v.k ≤ 9223372036854775807) ∧ (-9223372036854775808 ≤ v.n ∧ v.n ≤ 9223372036854775807) ∧ v.t.size ≤ maxLen
def RVal (cs : List Value) (v : V) : Prop := cs = v.cells ∧ v.wf
section
variable {H : Type} {enc : TypeId × Value → H} {w : World} {base : Nat} {spare : Nat → Bool} {held : Bool}

theorem open_rval : ∀ fuel cs y, DataW.trod enc Try.prog w base spare held fuel 26 cs = some y → ∃ x, RVal cs x := fun fuel cs y h => by
  obtain ⟨y0, y1, y2, n, _, hl, h0, h1, h2⟩ := Go.Deep.trod_struct3 Try.underlying26 h
  obtain ⟨k, e0, _, w0⟩ := DataW.trod_int Try.underlying3 h0
  obtain ⟨m, e1, _, w1⟩ := DataW.trod_int Try.underlying2 h1
  obtain ⟨s, e2, _, w2⟩ := DataW.trod_string Try.underlying9 h2
  have c50 : Try.prog.cellsOf 26 = 3 := by kernel_rfl
  have c3 : Try.prog.cellsOf 3 = 1 := by kernel_rfl
  have c2 : Try.prog.cellsOf 2 = 1 := by kernel_rfl
  have c9 : Try.prog.cellsOf 9 = 1 := by kernel_rfl
  rw [c50] at hl
  match cs, hl with
  | [a, b, c], _ =>
    simp [c3, c2, c9] at e0 e1 e2
    subst e0 e1 e2
    exact ⟨⟨k, m, s⟩, rfl, wf_i64 w0, wf_i64 w1, w2⟩
theorem val_of {r : Reach} {b0 : Nat} {v : Value} {d : DataW H} {p : List MemPlace} (hv : Value.okWide Try.prog w r b0 26 v) (h : DataW.Trod enc Try.prog w base spare held 26 v d p) : ∃ y : V, v = y.val ∧ y.wf := by
  obtain ⟨cs, rfl, _⟩ := okWide_struct Try.underlying26 hv
  obtain ⟨fuel, hf⟩ := h
  obtain ⟨y, hy, hw⟩ := open_rval fuel _ _ hf
  refine ⟨y, ?_, hw⟩
  have : cs = y.cells.toArray := by rw [← hy]; simp [Value.cells]
  rw [this]; rfl
end
end Go.Proofs.Ytfdfjogoiagnkaa
namespace Go.Proofs.Ytfdfjogoiagnkaa

def dig (c : UInt8) : Nat :=
  if 48 ≤ c.toNat ∧ c.toNat ≤ 57 then c.toNat - 48 else if 97 ≤ c.toNat ∧ c.toNat ≤ 102 then c.toNat - 87 else if 65 ≤ c.toNat ∧ c.toNat ≤ 70 then c.toNat - 55 else 16
def hx : List UInt8 → Nat × Nat
  | [] => (0, 0)
  | [a] => if dig a < 16 then (dig a, 2) else (0, 0)
  | a :: b :: _ => if dig a < 16 then (if dig b < 16 then (dig a * 16 + dig b, 3) else (dig a, 2)) else (0, 0)
end Go.Proofs.Ytfdfjogoiagnkaa
namespace Go.Proofs.Ytfdfjogoiagnkaa
open Go.RowKit

def Strs (w : World) (A : Option Addr) (ss : List ByteArray) : Prop := ∀ i s, ss[i]? = some s → ∃ b o, A = some ⟨b, o, none⟩ ∧ w.cell? ⟨b, o + i, none⟩ = some (.string s)

theorem Strs.keeps {w w1 : World} {S : Nat → Prop} {A : Option Addr} {ss : List ByteArray} (h : Strs w A ss) (hk : Keeps S w w1) (hn : ∀ b o, A = some ⟨b, o, none⟩ → ¬ S b) : Strs w1 A ss := fun i s hi => by
  obtain ⟨b, o, rfl, hc⟩ := h i s hi
  exact ⟨b, o, rfl, hk.cell hc (hn b o rfl)⟩

def strCellsOf (l : List ByteArray) : List Value := l.map .string
theorem Strs.nil (w : World) (A : Option Addr) : Strs w A [] := fun i s h => by simp at h
theorem add_at (g o j : Nat) : (⟨g, o, none⟩ : Addr).add j = ⟨g, o + j, none⟩ := by unfold Addr.add; split <;> simp_all
theorem Strs.src {P : Program} {w : World} {A : Option Addr} {ss : List ByteArray} {c : Nat} {tx e : TypeId} (h : Strs w A ss) (hk : P.underlying tx = some (.slice e)) : Src P 1 tx (.slice A ss.length c) ss.length (strCellsOf ss) w := by
  cases hs : ss with
  | nil =>
    cases A with
    | none => exact Src.ofNil w hk c
    | some a => exact Src.ofSlice w hk a 0 c [] rfl (by simp) (by simp)
  | cons s l =>
    obtain ⟨b, o, rfl, _⟩ := h 0 s (by simp [hs])
    rw [← hs]
    refine Src.ofSlice w hk _ _ c _ (by simp [strCellsOf]) ?_ ?_
    · intro j u hu
      simp only [strCellsOf, List.getElem?_map, Option.map_eq_some_iff] at hu
      obtain ⟨s', h1, rfl⟩ := hu
      obtain ⟨b', o', he, hc⟩ := h j s' h1
      simp at he
      obtain ⟨rfl, rfl⟩ := he
      rw [add_at]; exact hc
    · intro u hu
      simp only [strCellsOf, List.mem_map] at hu
      obtain ⟨_, _, rfl⟩ := hu
      rfl
theorem Strs.lit (w : World) (ss : List ByteArray) (t : TypeId) : Strs (w.alloc (.cells (ss.map Value.string).toArray t)) (some ⟨w.heap.size, 0, none⟩) ss := fun i s h => ⟨_, _, rfl, by
  rw [blk_cell (blk_new w _)]
  simp [h]⟩
theorem Strs.own {w : World} {base e n c : Nat} {A : Option Addr} {ss : List ByteArray} (h : w.ownsRow base e 1 (.slice A n c) n (strCellsOf ss)) : Strs w A ss := fun i s hi => by
  rcases h.2 with ⟨h1, h2⟩ | ⟨g, cap, cur, h1, _⟩
  · have := h.1
    simp [strCellsOf, h2] at this
    simp [this] at hi
  · simp at h1
    obtain ⟨rfl, rfl⟩ := h1
    refine ⟨g, 0, rfl, ?_⟩
    have := h.cells (g := g) rfl i (.string s) (by simp [strCellsOf, hi])
    rwa [add_at] at this

section
variable {P : Program} {ops : Array Oper} {o : Oper} {a : Act} {Q : Exit → Act → World → Prop} {rest : List Oper}
end
end Go.Proofs.Ytfdfjogoiagnkaa
namespace Go.Proofs.Ytfdfjogoiagnkaa
open Go.RowKit
set_option maxRecDepth 100000

theorem toList_inj {a b : ByteArray} : a.toList = b.toList ↔ a = b := by
  rw [Lib.toList_data, Lib.toList_data]
  refine ⟨fun h => ?_, fun h => by rw [h]⟩
  exact ByteArray.ext (Array.ext' h)
theorem at_list (s : ByteArray) {k : Nat} (h : k < s.size) : s.data.toList[k]'(by simpa using h) = s[k] := by rw [Array.getElem_toList]; rfl
theorem list_len (s : ByteArray) : s.data.toList.length = s.size := by simp
end Go.Proofs.Ytfdfjogoiagnkaa
namespace Go.Proofs.Ytfdfjogoiagnkaa
open Go.RowKit
set_option maxRecDepth 100000

def hstep (h : Int) (c : UInt8) : Int := IntKind.u64.wrap (bits BinOp.xor .u64 h (IntKind.u64.wrap c.toNat) * 1099511628211)
def hashL (l : List UInt8) : Int := l.foldl hstep 14695981039346656037
theorem hashL_take {l : List UInt8} {k : Nat} (h : k < l.length) : hashL (l.take (k + 1)) = hstep (hashL (l.take k)) l[k] := by
  rw [List.take_succ_eq_append_getElem h, hashL, List.foldl_append]; rfl
set_option maxHeartbeats 400000 in
theorem str_Hash (s : ByteArray) (w : World) (hs : s.size ≤ 140737488351232) : Calls Try.prog 83 #[.string s] w fun e w' => e = .returned (.int .u64 (hashL s.data.toList)) ∧ w = w' := by
  have LA := hidden (list_len s)
  refine post_gen fun R hR => ?_
  go_enter Try.func83, Try.ntmps83
  go_wp2_with fail
  go_loop [3, 7] (fun h i => ∃ k : Nat, k ≤ s.size ∧ i = .int .i64 k ∧ h = .int .u64 (hashL (s.data.toList.take k))) (fun _ i => s.size - (intOf i).toNat)
  case atStart => exact ⟨0, Nat.zero_le _, rfl, by simp only [List.take_zero, hashL, List.foldl_nil]⟩
  case round =>
    obtain ⟨k, hk, rfl, rfl⟩ := hrel
    by_cases hlt : k < s.size
    · have GA := hidden (at_list s hlt)
      have KA := hidden (hashL_take (l := s.data.toList) (k := k) (by rw [LA.out]; exact hlt))
      generalize hashL (s.data.toList.take k) = x at *
      go_wp2
      go_round
      case rel => exact ⟨k + 1, by omega, by go_num, by rw [KA.out, GA.out, hstep]⟩
      case measure => simp [intOf]; omega
    · obtain rfl : k = s.size := by omega
      go_wp2
      refine hR.out _ _ ⟨?_, rfl⟩
      rw [List.take_of_length_le (by rw [LA.out]; exact Nat.le_refl _)]
end Go.Proofs.Ytfdfjogoiagnkaa
namespace Go.Proofs.Ytfdfjogoiagnkaa
open Go.RowKit
set_option maxRecDepth 100000

def hash0 (a : Int) : Int :=
  let x0 := IntKind.u64.wrap a
  let x1 := bits BinOp.xor .u64 x0 (x0 / 1073741824)
  let x2 := IntKind.u64.wrap (x1 * 13787848793156543929)
  let x3 := bits BinOp.xor .u64 x2 (x2 / 134217728)
  let x4 := IntKind.u64.wrap (x3 * 10723151780598845931)
  bits BinOp.xor .u64 x4 (x4 / 2147483648)
theorem num_Hash (x : Int) (w : World) : Calls Try.prog 84 #[.int .i64 x] w fun e w' => e = .returned (.int .u64 (hash0 x)) ∧ w = w' := by
  refine post_gen fun R hR => ?_
  go_enter Try.func84, Try.ntmps84
  go_wp2_with fail
  refine hR.out _ _ ⟨show Ending.returned (.int .u64 _) = .returned (.int .u64 _) from ret_int ?_, rfl⟩
  simp only [hash0]
def V.hash (v : V) : Int := if v.k = 3 then hashL v.t.data.toList else if v.k = 0 then 0 else IntKind.u64.wrap (hash0 v.n + IntKind.u64.wrap (IntKind.u64.wrap v.k * 11400714819323198485))
theorem value_Hash (v : V) (w : World) (ht : v.t.size ≤ 140737488351232) : Calls Try.prog 77 #[v.val] w fun e w' => e = .returned (.int .u64 v.hash) ∧ Keeps (fun _ => False) w w' := by
  obtain ⟨k, n, t⟩ := v
  have h1 := hidden (fun W => str_Hash t W ht)
  have h2 := hidden (fun W => num_Hash n W)
  unfold V.val
  simp only [V.hash]
  generalize hashL t.data.toList = x at *
  generalize hash0 n = y at *
  refine post_gen fun R hR => ?_
  by_cases g3 : k = 3
  · subst g3
    rw [if_pos rfl] at hR
    go_enter Try.func77, Try.ntmps77
    go_wp2_with (go_at_call 83; refine (h1.out _).mono ?_; rintro e _ ⟨rfl, rfl⟩)
    exact hR.out _ _ ⟨rfl, (Keeps.refl _ _).alloc _⟩
  · have i3 : (k == 3) = false := by simpa using g3
    rw [if_neg g3] at hR
    by_cases g0 : k = 0
    · subst g0
      rw [if_pos rfl] at hR
      go_enter Try.func77, Try.ntmps77
      go_wp2_with fail
      exact hR.out _ _ ⟨rfl, (Keeps.refl _ _).alloc _⟩
    · have i0 : (k == 0) = false := by simpa using g0
      rw [if_neg g0] at hR
      go_enter Try.func77, Try.ntmps77
      go_wp2_with fail
      go_quiet ((go_at_call 84; exact Calls.quiet_of_same ((h2.out _).mono fun _ _ ⟨h1, h2⟩ => ⟨h1, h2.symm⟩)))
      go_wp2_with fail
      exact hR.out _ _ ⟨show Ending.returned (.int .u64 _) = .returned (.int .u64 _) from ret_int rfl, ((Keeps.refl _ _).alloc _).drewN _⟩
theorem u64_in (n : Int) : 0 ≤ IntKind.u64.wrap n ∧ IntKind.u64.wrap n < 18446744073709551616 := by rw [IntKind.wrap_u64]; omega
theorem hstep_in (l : List UInt8) : ∀ a : Int, 0 ≤ a ∧ a < 18446744073709551616 → 0 ≤ l.foldl hstep a ∧ l.foldl hstep a < 18446744073709551616 := by
  induction l with
  | nil => intro a h; exact h
  | cons c l ih => intro a _; exact ih _ (u64_in _)
theorem hashL_in (l : List UInt8) : 0 ≤ hashL l ∧ hashL l < 18446744073709551616 := hstep_in l _ (by omega)
theorem V.hash_in (v : V) : 0 ≤ v.hash ∧ v.hash < 18446744073709551616 := by
  unfold V.hash
  split
  · exact hashL_in _
  · split
    · omega
    · exact u64_in _
end Go.Proofs.Ytfdfjogoiagnkaa
namespace Go.Proofs.Ytfdfjogoiagnkaa
open Go.RowKit

def Ints (w : World) (A : Option Addr) (l : List Int) : Prop := ∀ i x, l[i]? = some x → ∃ b o, A = some ⟨b, o, none⟩ ∧ w.cell? ⟨b, o + i, none⟩ = some (.int .i64 x)
theorem Ints.keeps {w w1 : World} {S : Nat → Prop} {A : Option Addr} {l : List Int} (h : Ints w A l) (hk : Keeps S w w1) (hn : 0 < l.length → ∀ b o, A = some ⟨b, o, none⟩ → ¬ S b) : Ints w1 A l := fun i x hi => by
  obtain ⟨b, o, rfl, h1⟩ := h i x hi
  exact ⟨b, o, rfl, hk.cell h1 (hn (by have := (List.getElem?_eq_some_iff.1 hi).1; omega) b o rfl)⟩
theorem Ints.own {w : World} {base e n c : Nat} {A : Option Addr} {l : List Int} (h : w.ownsRow base e 1 (.slice A n c) n (intCells l)) : Ints w A l := fun i x hi => by
  have hil := (List.getElem?_eq_some_iff.1 hi).1
  rcases h.2 with ⟨h1, h2⟩ | ⟨g, cap, cur, h1, _⟩
  · have := h.1
    simp [intCells] at this
    omega
  · simp at h1
    obtain ⟨rfl, rfl⟩ := h1
    have hc := h.cells (g := g) rfl i (.int .i64 x) (by simp [intCells, hi])
    rw [add_at3] at hc
    exact ⟨g, 0, rfl, hc⟩
end Go.Proofs.Ytfdfjogoiagnkaa
namespace Go.Proofs.Ytfdfjogoiagnkaa
open Go.RowKit
set_option maxRecDepth 100000

structure Ent where
  key : V
  val : V
  ser : Int
  gone : Bool
def Ent.cells (e : Ent) : List Value := [.int .i64 e.key.k, .int .i64 e.key.n, .string e.key.t, .int .i64 e.val.k, .int .i64 e.val.n, .string e.val.t, .int .i64 e.ser, .bool e.gone]
def flatE (E : List Ent) : List Value := E.flatMap Ent.cells
theorem flatE_length (E : List Ent) : (flatE E).length = E.length * 8 := by
  induction E with
  | nil => rfl
  | cons x xs ih => simp only [flatE, List.flatMap_cons, List.length_append] at ih ⊢; rw [ih]; simp [Ent.cells]; omega
theorem flatE_append (E G : List Ent) : flatE (E ++ G) = flatE E ++ flatE G := by simp [flatE]
theorem flatE_one (E : List Ent) : ∀ u ∈ flatE E, u.oneCell' = true := by
  intro u hu
  simp only [flatE, List.mem_flatMap] at hu
  obtain ⟨v, _, h⟩ := hu
  simp [Ent.cells] at h
  rcases h with rfl | rfl | rfl | rfl | rfl | rfl | rfl | rfl <;> rfl
theorem flatE_take (xs : List Ent) : ∀ m, (flatE xs).take (m * 8) = flatE (xs.take m) := by
  induction xs with
  | nil => intro m; simp [flatE]
  | cons x xs ih =>
    intro m
    cases m with
    | zero => simp [flatE]
    | succ m =>
      have e : flatE (x :: xs) = x.cells ++ flatE xs := by simp [flatE]
      have e2 : flatE ((x :: xs).take (m + 1)) = x.cells ++ flatE (xs.take m) := by simp [flatE]
      rw [e, e2, ← ih m, List.take_append, List.take_of_length_le (by simp [Ent.cells]; omega)]
      congr 2
      simp [Ent.cells]; omega
theorem flatE_get (xs : List Ent) : ∀ (i : Nat) (x : Ent), xs[i]? = some x → ∀ j, j < 8 → (flatE xs)[i * 8 + j]? = x.cells[j]? := by
  induction xs with
  | nil => intro i x h; simp at h
  | cons y xs ih =>
    intro i x h j hj
    have e : flatE (y :: xs) = y.cells ++ flatE xs := by simp [flatE]
    rw [e]
    cases i with
    | zero =>
      simp at h
      subst h
      rw [List.getElem?_append_left (by simp [Ent.cells]; omega)]
      simp
    | succ i =>
      simp at h
      rw [List.getElem?_append_right (by simp [Ent.cells]; omega)]
      have := ih i x h j hj
      rw [← this]
      congr 1
      simp [Ent.cells]; omega
structure EntAt (w : World) (g o i : Nat) (x : Ent) : Prop where
  c0 : w.cell? ⟨g, o + i * 8, none⟩ = some (.int .i64 x.key.k)
  c1 : w.cell? ⟨g, o + i * 8 + 1, none⟩ = some (.int .i64 x.key.n)
  c2 : w.cell? ⟨g, o + i * 8 + 2, none⟩ = some (.string x.key.t)
  c3 : w.cell? ⟨g, o + i * 8 + 3, none⟩ = some (.int .i64 x.val.k)
  c4 : w.cell? ⟨g, o + i * 8 + 4, none⟩ = some (.int .i64 x.val.n)
  c5 : w.cell? ⟨g, o + i * 8 + 5, none⟩ = some (.string x.val.t)
  c6 : w.cell? ⟨g, o + i * 8 + 6, none⟩ = some (.int .i64 x.ser)
  c7 : w.cell? ⟨g, o + i * 8 + 7, none⟩ = some (.bool x.gone)
theorem EntAt.keeps {w w1 : World} {S : Nat → Prop} {g o i : Nat} {x : Ent} (h : EntAt w g o i x) (hk : Keeps S w w1) (hn : ¬ S g) : EntAt w1 g o i x :=
  ⟨hk.cell h.c0 hn, hk.cell h.c1 hn, hk.cell h.c2 hn, hk.cell h.c3 hn, hk.cell h.c4 hn, hk.cell h.c5 hn, hk.cell h.c6 hn, hk.cell h.c7 hn⟩
def Ents (w : World) (A : Option Addr) (E : List Ent) : Prop := ∀ i x, E[i]? = some x → ∃ g o, A = some ⟨g, o, none⟩ ∧ EntAt w g o i x
theorem Ents.keeps {w w1 : World} {S : Nat → Prop} {A : Option Addr} {E : List Ent} (h : Ents w A E) (hk : Keeps S w w1) (hn : 0 < E.length → ∀ b o, A = some ⟨b, o, none⟩ → ¬ S b) : Ents w1 A E := fun i x hi => by
  obtain ⟨b, o, rfl, h1⟩ := h i x hi
  exact ⟨b, o, rfl, h1.keeps hk (hn (by have := (List.getElem?_eq_some_iff.1 hi).1; omega) b o rfl)⟩
theorem Ents.own {w : World} {base e n c : Nat} {A : Option Addr} {E : List Ent} (h : w.ownsRow base e 8 (.slice A n c) n (flatE E)) : Ents w A E := fun i x hi => by
  have hil := (List.getElem?_eq_some_iff.1 hi).1
  rcases h.2 with ⟨h1, h2⟩ | ⟨g, cap, cur, h1, _⟩
  · have := h.1
    rw [flatE_length] at this
    omega
  · simp at h1
    obtain ⟨rfl, rfl⟩ := h1
    have hc := h.cells (g := g) rfl
    have k : ∀ j v, j < 8 → x.cells[j]? = some v → w.cell? ⟨g, 0 + (i * 8 + j), none⟩ = some v := fun j v hj hv => by
      have := hc (i * 8 + j) v ((flatE_get E i x hi j hj).trans hv)
      rwa [add_at3] at this
    exact ⟨g, 0, rfl, ⟨k 0 _ (by omega) rfl, k 1 _ (by omega) rfl, k 2 _ (by omega) rfl, k 3 _ (by omega) rfl, k 4 _ (by omega) rfl, k 5 _ (by omega) rfl, k 6 _ (by omega) rfl, k 7 _ (by omega) rfl⟩⟩

structure Tb where
  E : List Ent
  S : List Int
  live : Int
  used : Int
  ser : Int
structure TabAt (w : World) (F : Nat → Prop) (b : Nat) (ve vs : Value) (t : Tb) : Prop where
  blk : w.heap[b]? = some (.cells #[ve, vs, .int .i64 t.live, .int .i64 t.used, .int .i64 t.ser] 110 (0, 0))
  here : F b
  ents : Row w F 116 8 ve t.E.length (flatE t.E)
  slots : Row w F 3 1 vs t.S.length (intCells t.S)
  inw : In F w
def IsTab (w : World) (F : Nat → Prop) (b : Nat) (t : Tb) : Prop := ∃ ve vs, TabAt w F b ve vs t
theorem TabAt.keeps {w w1 : World} {F S : Nat → Prop} {b : Nat} {ve vs : Value} {t : Tb} (h : TabAt w F b ve vs t) (hk : Keeps S w w1) (hn : Apart F S) : TabAt w1 F b ve vs t :=
  ⟨hk.heap h.blk (hn _ h.here), h.here, h.ents.keeps hk hn, h.slots.keeps hk hn, h.inw.keeps hk⟩
theorem TabAt.none {w w1 : World} {F : Nat → Prop} {b : Nat} {ve vs : Value} {t : Tb} (h : TabAt w F b ve vs t) (hk : Keeps (fun _ => False) w w1) : TabAt w1 F b ve vs t := h.keeps hk (Apart.no _)
theorem IsTab.keeps {w w1 : World} {F S : Nat → Prop} {b : Nat} {t : Tb} (h : IsTab w F b t) (hk : Keeps S w w1) (hn : Apart F S) : IsTab w1 F b t := by
  obtain ⟨ve, vs, h⟩ := h
  exact ⟨ve, vs, h.keeps hk hn⟩
theorem IsTab.none {w w1 : World} {F : Nat → Prop} {b : Nat} {t : Tb} (h : IsTab w F b t) (hk : Keeps (fun _ => False) w w1) : IsTab w1 F b t := h.keeps hk (Apart.no _)
theorem IsTab.inw {w : World} {F : Nat → Prop} {b : Nat} {t : Tb} (h : IsTab w F b t) : In F w := by obtain ⟨_, _, h⟩ := h; exact h.inw

def probe (E : List Ent) (S : List Int) (key : V) (h : Nat) : Nat → Nat → Option Nat → Nat × Bool
  | 0, _, f => (f.getD 0, false)
  | m + 1, d, f =>
    if S.getD ((h + d) % S.length) 0 = (0 : Int) then (f.getD ((h + d) % S.length), false)
    else if S.getD ((h + d) % S.length) 0 = (-1 : Int) then probe E S key h m (d + 1) (some (f.getD ((h + d) % S.length)))
    else if (E.map (·.key))[(S.getD ((h + d) % S.length) 0).toNat - 1]? = some key then ((h + d) % S.length, true)
    else probe E S key h m (d + 1) f
def keyHash (key : V) : Nat := key.hash.toNat / 2
def findT (t : Tb) (key : V) : Nat × Bool := if t.S.length = 0 then (0, false) else probe t.E t.S key (keyHash key) t.S.length 0 none
structure Tb.safe (t : Tb) : Prop where
  two : t.S.length = 0 ∨ ∃ m : Nat, m ≤ 30 ∧ t.S.length = 2 ^ m
  inE : ∀ (i : Nat) (s : Int), t.S[i]? = some s → s = 0 ∨ s = -1 ∨ (1 ≤ s ∧ s ≤ (t.E.length : Int))
  many : t.E.length ≤ 1073741824

def first : Option Nat → Int
  | none => -1
  | some x => x
theorem probe_step {E : List Ent} {S : List Int} {key : V} {h m d j : Nat} {f : Option Nat} (hj : (h + d) % S.length = j) : probe E S key h (m + 1) d f =
    if S.getD j 0 = (0 : Int) then (f.getD j, false) else if S.getD j 0 = (-1 : Int) then probe E S key h m (d + 1) (some (f.getD j)) else if (E.map (·.key))[(S.getD j 0).toNat - 1]? = some key then (j, true) else probe E S key h m (d + 1) f := by
  rw [probe, hj]
theorem mask_nat (x n m : Nat) (hm : m ≤ 30) (hn : n = 2 ^ m) (hx : x < 9223372036854775808) : bits .and .i64 (x : Int) ((n : Int) - 1) = ((x % n : Nat) : Int) := by
  have hpos : 1 ≤ n := by rw [hn]; exact Nat.one_le_two_pow
  have hle : n ≤ 1073741824 := by rw [hn]; exact Nat.pow_le_pow_right (by decide) hm
  have e : (n : Int) - 1 = ((n - 1 : Nat) : Int) := by omega
  have h1 : (BitVec.ofInt 64 (x : Int)).toNat = x := by rw [BitVec.ofInt_natCast, BitVec.toNat_ofNat]; exact Nat.mod_eq_of_lt (by omega)
  have h2 : (BitVec.ofInt 64 ((n - 1 : Nat) : Int)).toNat = n - 1 := by rw [BitVec.ofInt_natCast, BitVec.toNat_ofNat]; exact Nat.mod_eq_of_lt (by omega)
  have h3 : x % n < n := Nat.mod_lt _ hpos
  rw [e]
  show IntKind.i64.wrap ((BitVec.ofInt 64 (x : Int) &&& BitVec.ofInt 64 ((n - 1 : Nat) : Int)).toNat : Int) = _
  rw [BitVec.toNat_and, h1, h2]
  conv => lhs; rw [hn]
  rw [Nat.and_two_pow_sub_one_eq_mod, ← hn, IntKind.wrap_i64]
  omega
theorem key_none {E : List Ent} {j : Nat} {key : V} {x : Ent} (hx : E[j]? = some x) (h : ¬ x.key = key) : ¬ (E.map (·.key))[j]? = some key := by
  rw [List.getElem?_map, hx]; simpa using h
theorem key_some {E : List Ent} {j : Nat} {key : V} {x : Ent} (hx : E[j]? = some x) (h : x.key = key) : (E.map (·.key))[j]? = some key := by
  rw [List.getElem?_map, hx]; simpa using h
theorem V.ne_cases' {a b : V} (h : ¬ b = a) : ¬ a.k = b.k ∨ (a.k = b.k ∧ ¬ a.n = b.n) ∨ (a.k = b.k ∧ a.n = b.n ∧ ¬ a.t.toList = b.t.toList) := by
  by_cases h1 : a.k = b.k
  · by_cases h2 : a.n = b.n
    · refine .inr (.inr ⟨h1, h2, fun h3 => h ?_⟩)
      have h4 : a.t = b.t := by
        rw [Lib.toList_data, Lib.toList_data] at h3
        exact ByteArray.ext (Array.ext' h3)
      cases a; cases b; simp_all
    · exact .inr (.inl ⟨h1, h2⟩)
  · exact .inl h1

set_option maxHeartbeats 16000000 in
theorem table_find (w : World) (F : Nat → Prop) (b : Nat) (t : Tb) (key : V) (h : IsTab w F b t) (hs : t.safe) (hk : key.t.size ≤ 140737488351232) :
    Calls Try.prog 61 #[.pointer (some ⟨b, 0, none⟩), key.val] w fun e w' => e = .returned (.tuple #[.int .i64 (findT t key).1, .bool (findT t key).2]) ∧ Keeps (fun _ => False) w w' := by
  obtain ⟨ve, vs, hT⟩ := h
  obtain ⟨Ae, ce, rfl⟩ := hT.ents.form
  obtain ⟨As, cs, rfl⟩ := hT.slots.form
  obtain ⟨E, S, live, used, ser⟩ := t
  have HT := hidden hT
  have HS := hidden hs
  have hb := blk_lt hT.blk
  have b0 := blk_cell hT.blk 0
  have b1 := blk_cell hT.blk 1
  simp only [List.getElem?_toArray, List.getElem?_cons_zero, List.getElem?_cons_succ] at b0 b1
  have hh := key.hash_in
  have hash := hidden (fun W => value_Hash key W hk)
  have hen := hs.many
  simp only at hen
  clear hT hs hk
  refine post_gen fun R hR => ?_
  by_cases h0 : S.length = 0
  · have hfe : findT ⟨E, S, live, used, ser⟩ key = (0, false) := if_pos h0
    rw [hfe] at hR
    rw [h0] at b1
    clear hh hash
    unfold V.val
    go_enter Try.func61, Try.ntmps61
    go_wp2_with fail
    exact hR.out _ _ ⟨rfl, (Keeps.refl _ _).alloc _⟩
  · have hfe : findT ⟨E, S, live, used, ser⟩ key = probe E S key (keyHash key) S.length 0 none := if_neg h0
    rw [hfe] at hR
    clear hfe
    obtain ⟨m, hm, hn⟩ := HS.out.two.resolve_left h0
    simp only at hn
    have hn2 : S.length ≤ 1073741824 := by rw [hn]; exact Nat.pow_le_pow_right (by decide) hm
    have hpos : 0 < S.length := by omega
    obtain ⟨H, hH⟩ : ∃ H : Nat, key.hash = (H : Int) := ⟨key.hash.toNat, by omega⟩
    have hH2 : keyHash key = H / 2 := by rw [keyHash, hH]; rfl
    have hH3 : H < 18446744073709551616 := by omega
    rw [hH2] at hR
    rw [hH] at hash
    have hw0 : IntKind.i64.wrap ((H : Int) / 2) = ((H / 2 : Nat) : Int) := by rw [IntKind.wrap_i64]; omega
    have hw1 := mask_nat (H / 2) S.length m hm hn (by omega)
    have hw2 : IntKind.i64.wrap ((S.length : Int) - 1) = (S.length : Int) - 1 := by rw [IntKind.wrap_i64]; omega
    have hz0 : ((S.length : Int) == 0) = false := by rw [beq_eq_false_iff_ne]; omega
    have hz1 : ¬ (S.length : Int) = 0 := by omega
    have hz2 : ¬ S = [] := fun e => h0 (by rw [e]; rfl)
    have HN := hidden hn
    clear hH hH2 hh hn
    have HK0 := hidden (show Keeps (fun _ => False) w (w.alloc (.cells #[.int .i64 key.k, .int .i64 key.n, .string key.t] 26)) from (Keeps.refl _ w).alloc _)
    have VK0 := hidden (IsVar.new w key)
    unfold V.val at *
    go_enter Try.func61, Try.ntmps61
    go_wp2_with fail
    refine (hash.out _).mono ?_
    rintro e w1 ⟨rfl, hK⟩
    have VK1 := hidden (show IsVar w1 w.heap.size key from hK.heap VK0.out (fun h => h))
    have HK1 := hidden (HK0.out.trans hK (fun _ _ h => h))
    clear hK hash
    have TT1 := hidden (HT.out.none HK1.out)
    have c0 := blk_cell TT1.out.blk 0
    have c1 := blk_cell TT1.out.blk 1
    simp only [List.getElem?_toArray, List.getElem?_cons_zero, List.getElem?_cons_succ] at c0 c1
    obtain ⟨i0, hi0⟩ : ∃ i0 : Nat, i0 = (H / 2 + 0) % S.length := ⟨_, rfl⟩
    have HI0 := hidden hi0
    have hi1 : i0 < S.length := by rw [hi0]; exact Nat.mod_lt _ hpos
    have hw3 : bits .and .i64 ((H : Int) / 2) ((S.length : Int) - 1) = (i0 : Int) := by rw [hi0, Nat.add_zero, ← hw1, Int.natCast_ediv]; rfl
    clear hi0 hw1
    have NX := hidden (fun (i : Nat) (hi : i < S.length) => mask_nat (i + 1) S.length m hm HN.out (by omega))
    go_wp2_with fail
    clear hw3 hw0 c0 c1 b0 b1
    go_loopw [7, 8, 9] (fun f i n wr => ∃ (d : Nat) (fo : Option Nat) (j : Nat), d ≤ S.length ∧ Hid (j = (H / 2 + d) % S.length) ∧ j < S.length ∧ i = .int .i64 j ∧ n = .int .i64 d ∧ f = .int .i64 (first fo) ∧ Hid (probe E S key (H / 2) S.length 0 none = probe E S key (H / 2) (S.length - d) d fo) ∧ Keeps (fun _ => False) w1 wr) (fun _ _ n _ => S.length - (intOf n).toNat)
    case atStart => exact ⟨0, none, i0, Nat.zero_le _, HI0, hi1, rfl, rfl, rfl, hidden rfl, Keeps.refl _ _⟩
    case round =>
      obtain ⟨d, fo, j, hd, HJ, hj, rfl, rfl, rfl, HP, hK⟩ := hrel
      have HKr := hidden hK
      have TTr := hidden (TT1.out.none hK)
      have c0 := blk_cell TTr.out.blk 0
      have c1 := blk_cell TTr.out.blk 1
      simp only [List.getElem?_toArray, List.getElem?_cons_zero, List.getElem?_cons_succ] at c0 c1
      have hbr := blk_lt TTr.out.blk
      by_cases hlt : d < S.length
      · obtain ⟨gs, os, rfl, hs0⟩ := Ints.own TTr.out.slots.1 j S[j] (List.getElem?_eq_getElem hj)
        have hgs := World.block_lt_of_cell? wr _ hs0
        have hsj := HS.out.inE j S[j] (List.getElem?_eq_getElem hj)
        simp only at hsj
        have HG := hidden (show S.getD j 0 = S[j] by rw [List.getD_eq_getElem?_getD, List.getElem?_eq_getElem hj]; rfl)
        have HST := hidden (probe_step (E := E) (S := S) (key := key) (h := H / 2) (m := S.length - d - 1) (d := d) (f := fo) HJ.out.symm)
        have hnx := NX.out j hj
        obtain ⟨j2, hj2⟩ : ∃ j2 : Nat, j2 = (j + 1) % S.length := ⟨_, rfl⟩
        rw [← hj2] at hnx
        have HJ2 := hidden (show j2 = (H / 2 + (d + 1)) % S.length by rw [hj2, HJ.out, Nat.mod_add_mod, Nat.add_assoc])
        have hj3 : j2 < S.length := by rw [hj2]; exact Nat.mod_lt _ hpos
        have hnx2 : bits .and .i64 ((j : Int) + 1) ((S.length : Int) - 1) = (j2 : Int) := by rw [← hnx]; rfl
        clear hnx hj2 hK
        have hsd : S.length - d = S.length - d - 1 + 1 := by omega
        have hp2 := HP.out
        rw [hsd, HST.out, HG.out] at hp2
        have HP2 := hidden hp2
        clear hsd hp2 HST HP
        generalize S[j] = s at *
        have hmd : S.length - d - 1 = S.length - (d + 1) := by omega
        rw [hmd] at HP2
        clear hmd HG
        have hdw : IntKind.i64.wrap ((d : Int) + 1) = (d : Int) + 1 := by rw [IntKind.wrap_i64]; omega
        have hjw : IntKind.i64.wrap ((j : Int) + 1) = (j : Int) + 1 := by rw [IntKind.wrap_i64]; omega
        rcases hsj with rfl | rfl | ⟨hs1, hs2⟩
        · have hp3 := HP2.out
          rw [if_pos rfl] at hp3
          have HP3 := hidden hp3
          clear hp3 HP2
          cases fo with
          | none =>
            simp only [first]
            go_wp2_with fail
            exact hR.out _ _ ⟨by rw [HP3.out]; rfl, HK1.out.trans HKr.out (fun _ _ h => h)⟩
          | some x =>
            simp only [first]
            have hx : ¬ ((x : Int) < 0) := by omega
            go_wp2_with fail
            exact hR.out _ _ ⟨by rw [HP3.out]; rfl, HK1.out.trans HKr.out (fun _ _ h => h)⟩
        · have hp3 := HP2.out
          rw [if_neg (by decide), if_pos rfl] at hp3
          have HP3 := hidden hp3
          clear hp3 HP2
          cases fo with
          | none =>
            simp only [first]
            go_wp2_with fail
            go_roundw
            case rel => exact ⟨d + 1, some j, j2, hlt, HJ2, hj3, by go_num, by go_num, rfl, HP3, HKr.out⟩
            case measure => simp [intOf]; omega
          | some x =>
            simp only [first]
            have hx : ¬ ((x : Int) < 0) := by omega
            go_wp2_with fail
            go_roundw
            case rel => exact ⟨d + 1, some x, j2, hlt, HJ2, hj3, by go_num, by go_num, rfl, HP3, HKr.out⟩
            case measure => simp [intOf]; omega
        · obtain ⟨q, rfl⟩ : ∃ q : Nat, s = (q : Int) + 1 := ⟨(s - 1).toNat, by omega⟩
          have hq : q < E.length := by omega
          obtain ⟨ge, oe, rfl, hea⟩ := Ents.own TTr.out.ents.1 q E[q] (List.getElem?_eq_getElem hq)
          obtain ⟨e0, e1, e2, -, -, -, -, -⟩ := hea
          have hge := World.block_lt_of_cell? wr _ e0
          obtain ⟨k0, k1, k2, -⟩ := (VK1.out.keeps HKr.out (fun h => h)).cells
          have hvk := blk_lt (VK1.out.keeps HKr.out (fun h => h))
          have hq1 : IntKind.i64.wrap ((q : Int) + 1 - 1) = (q : Int) := by rw [IntKind.wrap_i64]; omega
          have hq2 : ((q : Int) + 1).toNat - 1 = q := by omega
          have hp3 := HP2.out
          rw [if_neg (by omega), if_neg (by omega), hq2] at hp3
          have HP3 := hidden hp3
          have HX := hidden (show E[q]? = some E[q] from List.getElem?_eq_getElem hq)
          clear hp3 HP2 hq2
          have hb1 : ((q : Int) + 1 == 0) = false := by rw [beq_eq_false_iff_ne]; omega
          have hb2 : ((q : Int) + 1 == -1) = false := by rw [beq_eq_false_iff_ne]; omega
          generalize E[q] = x at *
          by_cases hx : x.key = key
          · have hp4 := HP3.out
            rw [if_pos (key_some HX.out hx)] at hp4
            have HP4 := hidden hp4
            rw [hx] at e0 e1 e2
            clear hp4 HP3 hx
            go_wp2_with fail
            go_quiet (fail)
            go_wp2_with fail
            exact hR.out _ _ ⟨by rw [HP4.out]; rfl, (HK1.out.trans HKr.out (fun _ _ h => h)).drewN _⟩
          · have hp4 := HP3.out
            rw [if_neg (key_none HX.out hx)] at hp4
            have HP4 := hidden hp4
            clear hp4 HP3
            rcases V.ne_cases' hx with d0 | ⟨d0, d1⟩ | ⟨d0, d1, d2⟩
            all_goals
              clear hx
              try (rw [← d0] at e0; clear d0)
              try (rw [← d1] at e1; clear d1)
              try have d3 := fun e => d0 (Eq.symm e)
              try have d4 := fun e => d1 (Eq.symm e)
              try have d5 := fun e => d2 (Eq.symm e)
              try have d6 := beq_eq_false_iff_ne.2 d4
              try have d7 := beq_eq_false_iff_ne.2 d5
              try have d8 : (x.key.t == key.t) = false := by rw [beq_eq_false_iff_ne]; intro e; exact d5 (by rw [e])
              try have d9 : ¬ x.key.t = key.t := by intro e; exact d5 (by rw [e])
              have hq4 : (q : Int) < (E.length : Int) := by omega
              have hq5 : (0 : Int) ≤ (q : Int) := by omega
              go_wp2_with fail
              go_quiet (fail)
              go_wp2_with fail
              go_roundw
              case rel => exact ⟨d + 1, fo, j2, hlt, HJ2, hj3, by go_num, by go_num, rfl, HP4, HKr.out.drewN _⟩
              case measure => simp [intOf]; omega
      · obtain rfl : d = S.length := by omega
        have hp2 := HP.out
        rw [Nat.sub_self, probe] at hp2
        have HP2 := hidden hp2
        clear hp2 HP
        cases fo with
        | none =>
          simp only [first]
          go_wp2_with fail
          exact hR.out _ _ ⟨by rw [HP2.out]; rfl, HK1.out.trans HKr.out (fun _ _ h => h)⟩
        | some x =>
          simp only [first]
          have hx : ¬ ((x : Int) < 0) := by omega
          have hx2 : max (x : Int) 0 = x := by omega
          go_wp2_with fail
          exact hR.out _ _ ⟨by rw [HP2.out]; rfl, HK1.out.trans HKr.out (fun _ _ h => h)⟩
end Go.Proofs.Ytfdfjogoiagnkaa
namespace Go.Proofs.Ytfdfjogoiagnkaa
open Go.RowKit

def laid (L : List Value) (o : Nat) (cs : List Value) : Array Value := (L.take o ++ cs ++ L.drop (o + cs.length)).toArray
theorem laid_size {L : List Value} {o : Nat} {cs : List Value} (h : o + cs.length ≤ L.length) : (laid L o cs).size = L.length := by simp [laid]; omega
theorem Keeps.setRow {S : Nat → Prop} {a w : World} (h : Keeps S a w) {g : Nat} (hg : g < a.heap.size → S g) (cs : Array Value) : Keeps S a (w.setRow g cs) :=
  ⟨h.os, h.tape, h.output, Nat.le_trans h.size (by simp [World.setRow]), fun i hi hn => by
    have hne : g ≠ i := fun e => hn (by subst e; exact hg hi)
    rw [← h.block i hi hn]
    simp [World.setRow, Array.getElem?_modify, hne]⟩
section
variable {P : Program}
variable {ops : Array Oper} {o : Oper} {a : Act} {Q : Exit → Act → World → Prop} {w : World}
theorem clear_list {rest : List Oper} (hgd : o.guard = none) (s : Operand) (t e : TypeId) (ho : o.op = .call { callee := .builtin .clear, args := #[s], argTypes := #[t] }) (z : Value) (size bytes : Nat) (hu : P.underlying t = some (.slice e))
    (hinfo : (P.info? e).map (fun i => (i.zero, i.size, i.bytes)) = some (some z, size, bytes)) (hzs : z.cells.size = size) (hz1 : ∀ v ∈ z.cells, v.oneCell' = true) {g go' n c : Nat} (hs : a.eval s = .slice (some ⟨g, go', none⟩) n c)
    (off k : Nat) (hoff : go' = off) (hk : n = k) (h0 : 0 < k) (cur : Array Value) (te : TypeId) (hg : w.heap[g]? = some (.cells cur te (0, 0))) (hfit : off + k * size ≤ cur.size)
    (h : ∀ w1, w1.heap[g]? = some (.cells (laid cur.toList off (Builtin.zeroCells z.cells k).toList) te (0, 0)) → Keeps (fun j => j = g) w w1 → wpList P ops Q rest (a.put o.dst (.tuple #[])) w1) : wpList P ops Q (o :: rest) a w := by
  subst hoff hk
  obtain ⟨i, hi, hz, hsize, hby⟩ := info_parts hinfo
  have hlen : (Builtin.zeroCells z.cells n).toList.length = n * size := by simp [Builtin.zeroCells, hzs]
  have hone : ∀ v ∈ (Builtin.zeroCells z.cells n).toList, v.oneCell' = true := by
    intro v hv
    simp only [Builtin.zeroCells, Array.toList_map, List.mem_map] at hv
    obtain ⟨j, hj, rfl⟩ := hv
    simp at hj
    have hpos : 0 < z.cells.size := Nat.pos_of_ne_zero (fun e => by simp [e] at hj)
    have : j % z.cells.size < z.cells.size := Nat.mod_lt _ hpos
    rw [getElem!_pos z.cells _ this]
    exact hz1 _ (Array.getElem_mem this)
  have hst := run_storeCells_at P g go' te (Builtin.zeroCells z.cells n).toList 0 cur w hg (by rw [hlen]; simpa using hfit) hone
  obtain ⟨n', rfl⟩ : ∃ n', n = n' + 1 := ⟨n - 1, by omega⟩
  refine wpList_plain hgd fun K hK => ?_
  unfold Oper.wp
  simp [execOp, ho, resolve, invoke, builtin, hs, Builtin.clear_, run_underlying hu, zeroValue, typeInfo, hi, hz, hst, Result.andThen]
  refine hK _ _ (h _ ?_ ?_)
  · have := setRow_heap w g cur (laid cur.toList go' (Builtin.zeroCells z.cells (n' + 1)).toList) te _ hg
    simpa [laid] using this
  · exact Keeps.setRow (S := fun j => j = g) (Keeps.refl _ w) (fun _ => rfl) _
end
theorem Row.ofBlk {w : World} {F : Nat → Prop} {e size g n c : Nat} {cur : Array Value} {xs : List Value} (hg : w.heap[g]? = some (.cells cur e (0, 0))) (hF : F g) (hn : n ≤ c) (hc : c ≤ maxLen) (hs : cur.size = c * size) (hx : cur.toList.take (n * size) = xs) :
    Row w F e size (.slice (some ⟨g, 0, none⟩) n c) n xs := by
  refine ⟨⟨?_, .inr ⟨g, c, cur, rfl, Nat.zero_le _, hg, hn, hc, hs, hx⟩⟩, fun k hk => by simp [Value.ownBlock] at hk; exact hk ▸ hF⟩
  rw [← hx, List.length_take]
  exact Nat.min_eq_left (by simp [hs]; exact Nat.mul_le_mul_right _ hn)
theorem Row.blk {w : World} {F : Nat → Prop} {e size n c : Nat} {A : Option Addr} {xs : List Value} (h : Row w F e size (.slice A n c) n xs) (h0 : 0 < n) : ∃ g cur, A = some ⟨g, 0, none⟩ ∧ F g ∧ w.heap[g]? = some (.cells cur e (0, 0)) ∧ n ≤ c ∧ c ≤ maxLen ∧ cur.size = c * size ∧ cur.toList.take (n * size) = xs := by
  rcases h.1.2 with ⟨h1, rfl⟩ | ⟨g, cap, cur, h1, _, hg, hc, hm, hs, ht⟩
  · omega
  · simp at h1
    obtain ⟨rfl, rfl⟩ := h1
    exact ⟨g, cur, rfl, h.2 g rfl, hg, hc, hm, hs, ht⟩
end Go.Proofs.Ytfdfjogoiagnkaa
namespace Go.Proofs.Ytfdfjogoiagnkaa
open Go.RowKit
set_option maxRecDepth 100000

theorem info_ent : (Try.prog.info? 116).map (fun i => (i.zero, i.size, i.bytes)) = some (some (.agg #[.int .i64 0, .int .i64 0, .string ⟨#[]⟩, .int .i64 0, .int .i64 0, .string ⟨#[]⟩, .int .i64 0, .bool false]), 8, 80) := by kernel_rfl
def Ent.agg (e : Ent) : Value := .agg #[.int .i64 e.key.k, .int .i64 e.key.n, .string e.key.t, .int .i64 e.val.k, .int .i64 e.val.n, .string e.val.t, .int .i64 e.ser, .bool e.gone]
def Ent.obj (e : Ent) : Obj := .cells #[.int .i64 e.key.k, .int .i64 e.key.n, .string e.key.t, .int .i64 e.val.k, .int .i64 e.val.n, .string e.val.t, .int .i64 e.ser, .bool e.gone] 116 (0, 0)
theorem rehash_gone (w : World) (x : Ent) : Calls Try.prog 79 #[x.agg] w fun e w' => e = .returned (.bool x.gone) ∧ Keeps (fun _ => False) w w' := by
  obtain ⟨k, v, s, g⟩ := x
  unfold Ent.agg
  refine post_gen fun R hR => ?_
  go_enter Try.func79, Try.ntmps79
  go_wp2
  exact hR.out _ _ ⟨rfl, (Keeps.refl _ _).alloc _⟩
def firstGone (E : List Ent) : Int := if E.any (·.gone) then (E.findIdx (·.gone) : Int) else -1
theorem take_none {E : List Ent} {k : Nat} (hk : k < E.length) (h : (E.take k).any (·.gone) = false) : (E.take (k + 1)).any (·.gone) = E[k].gone := by
  rw [List.take_succ_eq_append_getElem hk, List.any_append, h]; simp
theorem firstGone_at {E : List Ent} {k : Nat} (hk : k < E.length) (h : (E.take k).any (·.gone) = false) (hg : E[k].gone = true) : firstGone E = k := by
  have h1 : E.any (·.gone) = true := List.any_eq_true.2 ⟨_, List.getElem_mem hk, hg⟩
  rw [firstGone, if_pos h1]
  have : E.findIdx (·.gone) = k := by
    rw [List.findIdx_eq hk]
    refine ⟨hg, fun j hj => ?_⟩
    have h2 := List.any_eq_false.1 h
    have h3 : E[j] ∈ E.take k := List.mem_take_iff_getElem.2 ⟨j, by omega, rfl⟩
    simpa using h2 _ h3
  rw [this]
theorem firstGone_none {E : List Ent} (h : E.any (·.gone) = false) : firstGone E = -1 := by
  rw [firstGone, h]; rfl
set_option maxHeartbeats 1000000 in
theorem index_gone (w : World) (A : Option Addr) (c : Nat) (E : List Ent) (h : Ents w A E) (hl : E.length ≤ 1073741824) :
    Calls Try.prog 85 #[.slice A E.length c, .func (.func 79) #[] #[]] w fun e w' => e = .returned (.int .i64 (firstGone E)) ∧ Keeps (fun _ => False) w w' := by
  have HV := hidden h
  clear h
  refine post_gen fun R hR => ?_
  go_enter Try.func85, Try.ntmps85
  go_wp2
  go_loopw [8] (fun i wr => ∃ k : Nat, k ≤ E.length ∧ i = .int .i64 k ∧ Hid ((E.take k).any (·.gone) = false) ∧ Keeps (fun _ => False) w wr) (fun i _ => E.length - (intOf i).toNat)
  case atStart => exact ⟨0, Nat.zero_le _, rfl, hidden rfl, Keeps.refl _ _⟩
  case round =>
    obtain ⟨k, hk, rfl, HN, hK⟩ := hrel
    have HK := hidden hK
    by_cases hlt : k < E.length
    · obtain ⟨ge, oe, rfl, hea⟩ := (HV.out.keeps hK (fun _ _ _ _ h => h)) k E[k] (List.getElem?_eq_getElem hlt)
      obtain ⟨e0, e1, e2, e3, e4, e5, e6, e7⟩ := hea
      have hge := World.block_lt_of_cell? wr _ e0
      have HS := hidden (take_none hlt HN.out)
      have HF := hidden (firstGone_at hlt HN.out)
      have key := hidden (fun W => rehash_gone W E[k])
      unfold Ent.agg at key
      cases hg : E[k].gone with
      | true =>
        rw [hg] at e7
        simp only [hg] at key
        have HF2 := hidden (HF.out hg)
        clear HF
        clear hK
        generalize E[k] = x at *
        go_wp2_with fail
        refine (key.out _).mono ?_
        rintro e w1 ⟨rfl, hK⟩
        have HK1 := hidden (HK.out.trans hK (fun _ _ h => h))
        clear hK
        go_wp2_with fail
        exact hR.out _ _ ⟨show Ending.returned (.int .i64 _) = .returned (.int .i64 _) from ret_int HF2.out.symm, HK1.out⟩
      | false =>
        rw [hg] at e7
        simp only [hg] at key
        have HS2 := hidden (HS.out.trans hg)
        clear HS
        clear hK HF
        generalize E[k] = x at *
        go_wp2_with fail
        refine (key.out _).mono ?_
        rintro e w1 ⟨rfl, hK⟩
        have HK1 := hidden (HK.out.trans hK (fun _ _ h => h))
        clear hK
        go_wp2_with fail
        go_roundw
        case rel => exact ⟨k + 1, hlt, by go_num, HS2, HK1.out⟩
        case measure => simp [intOf]; omega
    · obtain rfl : k = E.length := by omega
      have hn := HN.out
      rw [List.take_length] at hn
      have HF := hidden (firstGone_none hn)
      clear hn
      go_wp2_with fail
      exact hR.out _ _ ⟨show Ending.returned (.int .i64 _) = .returned (.int .i64 _) from ret_int HF.out.symm, HK.out⟩

def put8 (w : World) (g i : Nat) (y : Ent) : World :=
  (((((((w.setCell ⟨g, i * 8, none⟩ (.int .i64 y.key.k)).setCell ⟨g, i * 8 + 1, none⟩ (.int .i64 y.key.n)).setCell ⟨g, i * 8 + 2, none⟩ (.string y.key.t)).setCell ⟨g, i * 8 + 3, none⟩ (.int .i64 y.val.k)).setCell ⟨g, i * 8 + 4, none⟩ (.int .i64 y.val.n)).setCell ⟨g, i * 8 + 5, none⟩ (.string y.val.t)).setCell ⟨g, i * 8 + 6, none⟩ (.int .i64 y.ser)).setCell ⟨g, i * 8 + 7, none⟩ (.bool y.gone)
theorem flatE_set (E : List Ent) (y : Ent) : ∀ i, i < E.length → ((((((((flatE E).set (i * 8) (.int .i64 y.key.k)).set (i * 8 + 1) (.int .i64 y.key.n)).set (i * 8 + 2) (.string y.key.t)).set (i * 8 + 3) (.int .i64 y.val.k)).set (i * 8 + 4) (.int .i64 y.val.n)).set (i * 8 + 5) (.string y.val.t)).set (i * 8 + 6) (.int .i64 y.ser)).set (i * 8 + 7) (.bool y.gone) = flatE (E.set i y) := by
  induction E with
  | nil => intro i h; simp at h
  | cons x xs ih =>
    intro i hi
    have e : flatE (x :: xs) = x.cells ++ flatE xs := by simp [flatE]
    cases i with
    | zero =>
      rw [e]
      simp [Ent.cells, flatE]
    | succ i =>
      have e2 : flatE ((x :: xs).set (i + 1) y) = x.cells ++ flatE (xs.set i y) := by simp [flatE]
      have h8 : x.cells.length = 8 := rfl
      have k : ∀ (L : List Value) (j : Nat) (v : Value), (x.cells ++ L).set ((i + 1) * 8 + j) v = x.cells ++ L.set (i * 8 + j) v := fun L j v => by
        rw [List.set_append_right _ _ (by rw [h8]; omega), h8]
        congr 2
        omega
      have k0 : ∀ (L : List Value) (v : Value), (x.cells ++ L).set ((i + 1) * 8) v = x.cells ++ L.set (i * 8) v := fun L v => k L 0 v
      rw [e, e2, k0, k, k, k, k, k, k, k, ih i (by simpa using hi)]
theorem Row.open8 {w : World} {F : Nat → Prop} {n c : Nat} {A : Option Addr} {E : List Ent} (h : Row w F 116 8 (.slice A n c) n (flatE E)) {i : Nat} (hi : i < E.length) : ∃ g, A = some ⟨g, 0, none⟩ ∧ F g ∧ g < w.heap.size ∧ EntAt w g 0 i E[i] ∧ ∀ j, w.frozen? ⟨g, j, none⟩ = false := by
  obtain ⟨b, o, rfl, hx⟩ := Ents.own h.1 i E[i] (by simp [hi])
  have ho : o = 0 := by
    rcases h.1.2 with ⟨he, _⟩ | ⟨g, cap, cur, he, _⟩
    · simp at he
    · simp at he; exact he.1.2
  subst ho
  exact ⟨b, rfl, h.2 b rfl, World.block_lt_of_cell? w _ hx.c0, hx, fun j => h.1.frozenAt _⟩
theorem Row.put8 {w : World} {F : Nat → Prop} {n c g : Nat} {E : List Ent} (h : Row w F 116 8 (.slice (some ⟨g, 0, none⟩) n c) n (flatE E)) {i : Nat} (hi : i < E.length) (y : Ent) :
    Row (put8 w g i y) F 116 8 (.slice (some ⟨g, 0, none⟩) n c) n (flatE (E.set i y)) := by
  have h3 := (((((((h.1.stored (i * 8) (.int .i64 y.key.k)).1.stored (i * 8 + 1) (.int .i64 y.key.n)).1.stored (i * 8 + 2) (.string y.key.t)).1.stored (i * 8 + 3) (.int .i64 y.val.k)).1.stored (i * 8 + 4) (.int .i64 y.val.n)).1.stored (i * 8 + 5) (.string y.val.t)).1.stored (i * 8 + 6) (.int .i64 y.ser)).1.stored (i * 8 + 7) (.bool y.gone)
  rw [flatE_set E y i hi] at h3
  exact ⟨h3.1, h.2⟩
theorem SameBut.put8 {b : Nat} {w1 w2 : World} (h : SameBut b w1 w2) (i : Nat) (y : Ent) : SameBut b w1 (put8 w2 b i y) := (((((((h.set _ _).set _ _).set _ _).set _ _).set _ _).set _ _).set _ _).set _ _
end Go.Proofs.Ytfdfjogoiagnkaa
namespace Go.Proofs.Ytfdfjogoiagnkaa
open Go.RowKit
set_option maxRecDepth 100000

def stay (E : List Ent) : List Ent := E.filter (fun e => !e.gone)
theorem stay_take {E : List Ent} {p : Nat} (hp : p < E.length) : stay (E.take (p + 1)) = stay (E.take p) ++ (if E[p].gone then [] else [E[p]]) := by
  rw [List.take_succ_eq_append_getElem hp, stay, List.filter_append]
  congr 1
  cases hg : E[p].gone <;> simp [hg]
theorem stay_le (E : List Ent) (p : Nat) : (stay (E.take p)).length ≤ p := by
  have := List.length_filter_le (fun e : Ent => !e.gone) (E.take p)
  simp only [stay]
  have h2 : (E.take p).length ≤ p := by simp; omega
  omega
theorem stay_none {E : List Ent} (h : E.any (·.gone) = false) : stay E = E := by
  rw [stay, List.filter_eq_self]
  intro x hx
  have := List.any_eq_false.1 h x hx
  simpa using this
def IsEnt (w : World) (r : Nat) (e : Ent) : Prop := w.heap[r]? = some e.obj
def mixed (E : List Ent) (p : Nat) : List Ent := stay (E.take p) ++ E.drop (stay (E.take p)).length
theorem mixed_length (E : List Ent) (p : Nat) (hp : p ≤ E.length) : (mixed E p).length = E.length := by
  have := stay_le E p
  simp [mixed]; omega
theorem mixed_at {E : List Ent} {p : Nat} (hp : p < E.length) : (mixed E p)[p]? = some E[p] := by
  have h := stay_le E p
  rw [mixed, List.getElem?_append_right h, List.getElem?_drop]
  rw [show (stay (E.take p)).length + (p - (stay (E.take p)).length) = p by omega, List.getElem?_eq_getElem hp]
theorem mixed_gone {E : List Ent} {p : Nat} (hp : p < E.length) (hg : E[p].gone = true) : mixed E (p + 1) = mixed E p ∧ (stay (E.take (p + 1))).length = (stay (E.take p)).length := by
  have h : stay (E.take (p + 1)) = stay (E.take p) := by rw [stay_take hp, hg]; simp
  rw [mixed, mixed, h]
  exact ⟨rfl, rfl⟩
theorem mixed_stay {E : List Ent} {p : Nat} (hp : p < E.length) (hg : E[p].gone = false) : (mixed E p).set (stay (E.take p)).length E[p] = mixed E (p + 1) ∧ (stay (E.take (p + 1))).length = (stay (E.take p)).length + 1 := by
  have h : stay (E.take (p + 1)) = stay (E.take p) ++ [E[p]] := by rw [stay_take hp, hg]; rfl
  have hle := stay_le E p
  rw [mixed, mixed, h]
  refine ⟨?_, by simp⟩
  rw [List.set_append_right _ _ (Nat.le_refl _), Nat.sub_self, List.length_append]
  rw [List.append_assoc]
  congr 1
  rw [List.drop_eq_getElem_cons (by omega : (stay (E.take p)).length < E.length)]
  rfl
theorem stay_first {E : List Ent} (h : E.any (·.gone) = true) : ∃ k : Nat, k < E.length ∧ firstGone E = k ∧ stay (E.take (k + 1)) = E.take k ∧ mixed E (k + 1) = E ∧ (stay E).length < E.length := by
  have hk : E.findIdx (·.gone) < E.length := List.findIdx_lt_length.2 (by obtain ⟨x, hx, hg⟩ := List.any_eq_true.1 h; exact ⟨x, hx, hg⟩)
  have hg : E[E.findIdx (·.gone)].gone = true := List.findIdx_getElem (w := hk)
  have hn : (E.take (E.findIdx (·.gone))).any (·.gone) = false := by
    rw [List.any_eq_false]
    intro x hx
    obtain ⟨j, hj, rfl⟩ := List.mem_take_iff_getElem.1 hx
    have hj2 : j < E.findIdx (·.gone) := by omega
    have := List.not_of_lt_findIdx hj2
    simpa using this
  refine ⟨_, hk, by rw [firstGone, if_pos h], ?_, ?_, ?_⟩
  · rw [stay_take hk, hg, stay_none hn]; simp
  · have e : stay (E.take (E.findIdx (·.gone) + 1)) = E.take (E.findIdx (·.gone)) := by rw [stay_take hk, hg, stay_none hn]; simp
    rw [mixed, e]
    have : (E.take (E.findIdx (·.gone))).length = E.findIdx (·.gone) := by simp; omega
    rw [this, List.take_append_drop]
  · have h1 := stay_le E E.length
    have h2 := (mixed_gone hk hg).2
    have e : stay E = stay (E.take E.length) := by rw [List.take_length]
    have mono : ∀ p q : Nat, p ≤ q → q ≤ E.length → (stay (E.take q)).length ≤ (stay (E.take p)).length + (q - p) := by
      intro p q hpq
      induction q with
      | zero => intro _; simp at hpq; subst hpq; simp
      | succ q ih =>
        intro hq
        by_cases h : p = q + 1
        · subst h; simp
        · have := ih (by omega) (by omega)
          rw [stay_take (by omega), List.length_append]
          split <;> simp <;> omega
    have h3 := mono (E.findIdx (·.gone) + 1) E.length (by omega) (Nat.le_refl _)
    have h4 := stay_le E (E.findIdx (·.gone))
    rw [e]
    omega

theorem zeros_ent (k : Nat) : (Builtin.zeroCells (Value.agg #[.int .i64 0, .int .i64 0, .string ⟨#[]⟩, .int .i64 0, .int .i64 0, .string ⟨#[]⟩, .int .i64 0, .bool false]).cells k).toList.length = k * 8 := by simp [Builtin.zeroCells, Value.cells]
theorem laid_take' {L : List Value} {o : Nat} {cs : List Value} (h : o ≤ L.length) : (laid L o cs).toList.take o = L.take o := by
  show (List.toArray _).toList.take o = _
  rw [List.toList_toArray, List.append_assoc, List.take_append_of_le_length (by rw [List.length_take]; omega), List.take_take, Nat.min_self]
set_option maxHeartbeats 4000000 in
theorem delete_gone (w : World) (F : Nat → Prop) (A : Option Addr) (c : Nat) (E : List Ent) (h : Row w F 116 8 (.slice A E.length c) E.length (flatE E)) (hl : E.length ≤ 1073741824) :
    Calls Try.prog 78 #[.slice A E.length c, .func (.func 79) #[] #[]] w fun e w' => e = .returned (.slice A (stay E).length c) ∧ Row w' F 116 8 (.slice A (stay E).length c) (stay E).length (flatE (stay E)) ∧ Keeps (fun k => (Value.slice A E.length c).ownBlock = some k) w w' := by
  have H := hidden h
  have key := hidden (index_gone w A c E (Ents.own h.1) hl)
  clear h
  refine post_gen fun R hR => ?_
  cases hany : E.any (·.gone) with
  | false =>
    have hs := stay_none hany
    rw [hs] at hR
    rw [firstGone_none hany] at key
    clear hany
    go_enter Try.func78, Try.ntmps78
    go_wp2_with fail
    refine key.out.mono ?_
    rintro e w1 ⟨rfl, hK⟩
    have HK := hidden hK
    clear hK
    go_wp2_with fail
    exact hR.out _ _ ⟨rfl, H.out.keeps HK.out (Apart.no _), HK.out.mono (fun _ _ h => h.elim)⟩
  | true =>
    obtain ⟨k, hk, hf, hsk, hmx, hlt0⟩ := stay_first hany
    rw [hf] at key
    clear hany hf
    obtain ⟨g, cur0, rfl, hFg, hg0, hnc, hcm, hcs0, htk0⟩ := H.out.blk (by omega)
    clear hg0 hcs0 htk0
    have HSK := hidden hsk
    have HMX := hidden hmx
    have hlk : (stay (E.take (k + 1))).length = k := by rw [hsk]; simp; omega
    have hkw : IntKind.i64.wrap ((k : Int) + 1) = (k : Int) + 1 := by rw [IntKind.wrap_i64]; omega
    have hk1 : ((k : Int) == -1) = false := by rw [beq_eq_false_iff_ne]; omega
    have HLK := hidden hlk
    clear hsk hmx hlk
    go_enter Try.func78, Try.ntmps78
    go_wp2_with fail
    refine key.out.mono ?_
    rintro e w1 ⟨rfl, hK⟩
    have HK1 := hidden hK
    have HR1 := hidden (H.out.keeps hK (Apart.no _))
    clear hK key
    go_wp2_with fail
    go_loopw [5, 6] (fun i j wr => ∃ (a p : Nat), p ≤ E.length ∧ a ≤ p ∧ a = (stay (E.take p)).length ∧ i = .int .i64 a ∧ j = .int .i64 p ∧ Row wr F 116 8 (.slice (some ⟨g, 0, none⟩) E.length c) E.length (flatE (mixed E p)) ∧ Keeps (fun j => j = g) w wr) (fun _ j _ => E.length - (intOf j).toNat)
    case atStart =>
      refine ⟨k, k + 1, hk, by omega, HLK.out.symm, rfl, by go_num, ?_, HK1.out.mono (fun _ _ h => h.elim)⟩
      rw [HMX.out]
      exact HR1.out
    case round =>
      obtain ⟨a, p, hp, hap, ha, rfl, rfl, hrow, hK⟩ := hrel
      have HR := hidden hrow
      have HA := hidden ha
      have HK := hidden hK
      have hml := mixed_length E p hp
      clear ha
      by_cases hlt : p < E.length
      · obtain ⟨ge, oe, he0, hea⟩ := Ents.own hrow.1 p E[p] (mixed_at hlt)
        simp at he0
        obtain ⟨rfl, rfl⟩ := he0
        obtain ⟨g', he0, -, hgw, -, hfz⟩ := hrow.open8 (i := a) (by omega)
        simp at he0
        subst he0
        obtain ⟨e0, e1, e2, e3, e4, e5, e6, e7⟩ := hea
        obtain ⟨g', he0, -, -, ⟨q0, q1, q2, q3, q4, q5, q6, q7⟩, -⟩ := hrow.open8 (i := a) (by omega)
        simp at he0
        subst he0
        simp only [Nat.zero_add] at e0 e1 e2 e3 e4 e5 e6 e7 q0 q1 q2 q3 q4 q5 q6 q7
        have f0 := hfz (a * 8)
        have f1 := hfz (a * 8 + 1)
        have f2 := hfz (a * 8 + 2)
        have f3 := hfz (a * 8 + 3)
        have f4 := hfz (a * 8 + 4)
        have f5 := hfz (a * 8 + 5)
        have f6 := hfz (a * 8 + 6)
        have f7 := hfz (a * 8 + 7)
        have hmg := hidden (fun h => mixed_gone hlt h)
        have hms := hidden (fun h => mixed_stay hlt h)
        have keyc := hidden (fun W => rehash_gone W E[p])
        unfold Ent.agg at keyc
        have hpw : IntKind.i64.wrap ((p : Int) + 1) = (p : Int) + 1 := by rw [IntKind.wrap_i64]; omega
        have haw : IntKind.i64.wrap ((a : Int) + 1) = (a : Int) + 1 := by rw [IntKind.wrap_i64]; omega
        have hal : a < E.length := by omega
        clear hrow hK hfz
        generalize hy : (mixed E p)[a] = y at *
        cases hg : E[p].gone with
        | true =>
          rw [hg] at e7
          simp only [hg] at keyc
          have hm2 := hmg.out hg
          have HM1 := hidden hm2.1
          have HM2 := hidden hm2.2
          clear hm2 hmg hms hg hy
          generalize E[p] = x at *
          go_wp2_with fail
          refine (keyc.out _).mono ?_
          rintro e w2 ⟨rfl, hK⟩
          have HK2 := hidden (show Keeps (fun _ => False) wr w2 from ((Keeps.refl _ wr).alloc _).trans hK (fun _ _ h => h))
          clear hK
          go_wp2_with fail
          go_roundw
          case rel => exact ⟨a, p + 1, hlt, by omega, by rw [HM2.out]; exact HA.out, rfl, by go_num, by rw [HM1.out]; exact HR.out.keeps HK2.out (Apart.no _), HK.out.trans HK2.out (fun _ _ h => h.elim)⟩
          case measure => simp [intOf]; omega
        | false =>
          rw [hg] at e7
          simp only [hg] at keyc
          have hm2 := hms.out hg
          rw [← HA.out] at hm2
          have HM1 := hidden hm2.1
          have HM2 := hidden hm2.2
          clear hm2 hmg hms hy
          generalize E[p] = x at *
          obtain ⟨xk, xv, xs, xg⟩ := x
          simp only at *
          subst hg
          have HB := hidden (show IsEnt (wr.alloc (Ent.obj ⟨xk, xv, xs, false⟩)) wr.heap.size ⟨xk, xv, xs, false⟩ from blk_new _ _)
          go_wp2_with fail
          refine (keyc.out _).mono ?_
          rintro e w2 ⟨rfl, hK⟩
          have HK2 := hidden (show Keeps (fun _ => False) wr w2 from ((Keeps.refl _ wr).alloc _).trans hK (fun _ _ h => h))
          have HB2 := hidden (show IsEnt w2 wr.heap.size ⟨xk, xv, xs, false⟩ from hK.heap HB.out (fun h => h))
          have x0 := blk_cell HB2.out 0
          have x1 := blk_cell HB2.out 1
          have x2 := blk_cell HB2.out 2
          have x3 := blk_cell HB2.out 3
          have x4 := blk_cell HB2.out 4
          have x5 := blk_cell HB2.out 5
          have x6 := blk_cell HB2.out 6
          have x7 := blk_cell HB2.out 7
          simp only [List.getElem?_toArray, List.getElem?_cons_zero, List.getElem?_cons_succ] at x0 x1 x2 x3 x4 x5 x6 x7
          have hbx := blk_lt HB2.out
          have HR2 := hidden (HR.out.keeps HK2.out (Apart.no _))
          clear e0 e1 e2 e3 e4 e5 e6 e7 q0 q1 q2 q3 q4 q5 q6 q7 f0 f1 f2 f3 f4 f5 f6 f7 hK keyc
          obtain ⟨g', he0, -, hgw2, ⟨q0, q1, q2, q3, q4, q5, q6, q7⟩, hfz⟩ := HR2.out.open8 (i := a) (by omega)
          simp at he0
          subst he0
          simp only [Nat.zero_add] at q0 q1 q2 q3 q4 q5 q6 q7
          have f0 := hfz (a * 8)
          have f1 := hfz (a * 8 + 1)
          have f2 := hfz (a * 8 + 2)
          have f3 := hfz (a * 8 + 3)
          have f4 := hfz (a * 8 + 4)
          have f5 := hfz (a * 8 + 5)
          have f6 := hfz (a * 8 + 6)
          have f7 := hfz (a * 8 + 7)
          clear hfz
          have HT := hidden (HR2.out.put8 (i := a) (by omega) ⟨xk, xv, xs, false⟩)
          rw [HM1.out] at HT
          have HKT := hidden (HK.out.trans (HK2.out.mono (T := fun j => j = g) (fun _ _ h => h.elim)) (fun _ _ h => h))
          have HKU := hidden (HKT.out.trans (((SameBut.refl g w2).put8 a ⟨xk, xv, xs, false⟩).keeps) (fun _ _ h => h))
          go_wp2_with fail
          go_roundw
          case rel => exact ⟨a + 1, p + 1, hlt, by omega, by rw [HM2.out], by go_num, by go_num, HT.out, HKU.out⟩
          case measure => simp [intOf]; omega
      · obtain rfl : p = E.length := by omega
        have hst : stay (E.take E.length) = stay E := by rw [List.take_length]
        have ha2 := HA.out
        rw [hst] at ha2
        have HA2 := hidden ha2
        have hr2 := HR.out
        obtain ⟨g', cur, he0, -, hg1, -, -, hcs, htk⟩ := hr2.blk (by omega)
        simp at he0
        subst he0
        have HG := hidden hg1
        have HTK := hidden htk
        have hcs' : cur.toList.length = c * 8 := by simpa using hcs
        have HF := hidden (show a * 8 + (E.length - a) * 8 ≤ cur.size by rw [hcs]; omega)
        have hac : a ≤ c := by omega
        have hac2 : (a : Int) ≤ (c : Int) := by omega
        have hac3 : ¬ c = a := by omega
        have hac4 : (a : Int) ≤ (E.length : Int) := by omega
        have hal : a < E.length := by omega
        clear hg1 htk hr2 ha2 hst hrow hK
        go_wp2_with (refine clear_list rfl _ _ _ rfl _ 8 80 Try.underlying108 info_ent rfl (by decide) (g := g) (go' := a * 8) (n := E.length - a) (c := c - a) rfl (a * 8) (E.length - a) rfl rfl (by omega) cur _ HG.out HF.out ?_; intro w2 hg2 hk2; have HG2 := hidden hg2; have HK2 := hidden hk2; clear hg2 hk2)
        have hL2 : (laid cur.toList (a * 8) (Builtin.zeroCells (Value.agg #[.int .i64 0, .int .i64 0, .string ⟨#[]⟩, .int .i64 0, .int .i64 0, .string ⟨#[]⟩, .int .i64 0, .bool false]).cells (E.length - a)).toList).size = c * 8 := by rw [laid_size (by rw [zeros_ent, hcs']; omega), hcs']
        have hfin : Row w2 F 116 8 (.slice (some ⟨g, 0, none⟩) a c) a (flatE (stay E)) := by
          refine Row.ofBlk HG2.out hFg hac hcm hL2 ?_
          rw [laid_take' (by rw [hcs']; omega)]
          have h1 : cur.toList.take (a * 8) = (cur.toList.take (E.length * 8)).take (a * 8) := by
            rw [List.take_take]; congr 1; omega
          have h2 : stay (E.take E.length) = stay E := by rw [List.take_length]
          rw [h1, HTK.out, flatE_take, mixed, h2]
          congr 1
          rw [HA2.out, List.take_left]
        refine hR.out _ _ ⟨?_, ?_, (HK.out.trans HK2.out (fun _ _ h => h)).mono (fun k _ e => by simp [Value.ownBlock, e])⟩
        · rw [← HA2.out]; rfl
        · rw [← HA2.out]; exact hfin
end Go.Proofs.Ytfdfjogoiagnkaa
namespace Go.Proofs.Ytfdfjogoiagnkaa
open Go.RowKit
set_option maxRecDepth 100000

theorem new2t (w : World) (o o' : Obj) : ((w.alloc o).alloc o').heap[w.heap.size + 1]? = some o' := by
  have := blk_new (w.alloc o) o'
  rw [show (w.alloc o).heap.size = w.heap.size + 1 by simp] at this
  exact this
def Tb.new : Tb := ⟨[], [], 0, 0, 0⟩
theorem table_New (w : World) : Calls Try.prog 28 #[] w fun e w' => ∃ b F, e = .returned (.pointer (some ⟨b, 0, none⟩)) ∧ IsTab w' F b Tb.new ∧ Keeps (fun _ => False) w w' ∧ Fresh (fun _ => False) F w := by
  refine post_gen fun R hR => ?_
  go_enter Try.func28, Try.ntmps28
  go_wp2_with fail
  exact hR.out _ _ ⟨_, fun k => k = w.heap.size, rfl, ⟨.slice none 0 0, .slice none 0 0, blk_new _ _, rfl, Row.nil _ _ _ _, Row.nil _ _ _ _, fun k hk => by simp; omega⟩, (Keeps.refl _ _).alloc _, fun k hk => .inr (by omega)⟩
theorem table_Has (w : World) (F : Nat → Prop) (b : Nat) (t : Tb) (key : V) (h : IsTab w F b t) (hs : t.safe) (hk : key.t.size ≤ 140737488351232) :
    Calls Try.prog 81 #[.pointer (some ⟨b, 0, none⟩), key.val] w fun e w' => e = .returned (.bool (findT t key).2) ∧ Keeps (fun _ => False) w w' := by
  have c1 := hidden (fun (W : World) (hK : Keeps (fun _ => False) w W) => table_find W F b t key (h.none hK) hs hk)
  clear h
  unfold V.val at *
  refine post_gen fun R hR => ?_
  go_enter Try.func81, Try.ntmps81
  go_wp2_with fail
  refine (c1.out _ ((Keeps.refl _ w).alloc _)).mono ?_
  rintro e w1 ⟨rfl, hK⟩
  have HK := hidden (((Keeps.refl _ w).alloc _).trans hK (fun _ _ h => h))
  clear hK
  go_wp2_with fail
  exact hR.out _ _ ⟨rfl, HK.out⟩
theorem table_Get_none (w : World) (F : Nat → Prop) (b : Nat) (t : Tb) (key : V) (h : IsTab w F b t) (hs : t.safe) (hk : key.t.size ≤ 140737488351232) (hf : (findT t key).2 = false) :
    Calls Try.prog 54 #[.pointer (some ⟨b, 0, none⟩), key.val] w fun e w' => e = .returned (.tuple #[V.val V.null, .int .i64 3]) ∧ Keeps (fun _ => False) w w' := by
  have c1 := hidden (fun (W : World) (hK : Keeps (fun _ => False) w W) => table_find W F b t key (h.none hK) hs hk)
  rw [hf] at c1
  clear h hf
  unfold V.val at *
  refine post_gen fun R hR => ?_
  go_enter Try.func54, Try.ntmps54
  go_wp2_with fail
  refine (c1.out _ (((Keeps.refl _ w).alloc _).alloc _)).mono ?_
  rintro e w1 ⟨rfl, hK⟩
  have HK := hidden ((((Keeps.refl (fun _ => False) w).alloc _).alloc _).trans hK (fun _ _ h => h))
  have hvv : IsVar w1 (w.heap.size + 1) V.null := hK.heap (new2t w _ _) (fun h => h)
  have HV := hidden hvv
  clear hK hvv c1
  go_wp2_with fail
  refine (value_Null _).mono ?_
  rintro e w2 ⟨rfl, hK⟩
  have HK2 := hidden (HK.out.trans hK (fun _ _ h => h))
  have HV2 := hidden (show IsVar w2 (w.heap.size + 1) V.null from hK.heap HV.out (fun h => h))
  clear hK HV
  obtain ⟨v0, v1, v2, v3, v4, v5⟩ := HV2.out.cells
  have hvz := blk_lt HV2.out
  simp only [V.null] at v0 v1 v2 v3 v4 v5
  unfold V.val V.null
  go_wp2_with fail
  obtain ⟨d0, d1, d2, _⟩ := (HV2.out.set V.null).cells
  simp only [V.null] at d0 d1 d2
  exact bodyPost_ret (v := .tuple #[V.val V.null, .int .i64 3]) (by simp [results, Try.results54, go_sem, d0, d1, d2, V.val, V.null]) rfl (hR.out _ _ ⟨rfl, HK2.out.var (r := w.heap.size + 1) (fun h => by omega) _ _ _⟩)
end Go.Proofs.Ytfdfjogoiagnkaa
namespace Go.Proofs.Ytfdfjogoiagnkaa
open Go.RowKit
set_option maxRecDepth 100000

theorem probe_true {E : List Ent} {S : List Int} {key : V} {h : Nat} (hS : 0 < S.length) (hin : ∀ (i : Nat) (s : Int), S[i]? = some s → s = 0 ∨ s = -1 ∨ (1 ≤ s ∧ s ≤ (E.length : Int))) :
    ∀ (m d : Nat) (f : Option Nat), (probe E S key h m d f).2 = true → ∃ q : Nat, S[(probe E S key h m d f).1]? = some ((q : Int) + 1) ∧ (E.map (·.key))[q]? = some key := by
  intro m
  induction m with
  | zero => intro d f hp; simp [probe] at hp
  | succ m ih =>
    intro d f hp
    have hlt : (h + d) % S.length < S.length := Nat.mod_lt _ hS
    have hg : S[(h + d) % S.length]? = some (S.getD ((h + d) % S.length) 0) := by
      rw [List.getD_eq_getElem?_getD, List.getElem?_eq_getElem hlt]; rfl
    rw [probe] at hp ⊢
    by_cases c1 : S.getD ((h + d) % S.length) 0 = (0 : Int)
    · rw [if_pos c1] at hp; simp at hp
    · rw [if_neg c1] at hp ⊢
      by_cases c2 : S.getD ((h + d) % S.length) 0 = (-1 : Int)
      · rw [if_pos c2] at hp ⊢; exact ih _ _ hp
      · rw [if_neg c2] at hp ⊢
        by_cases c3 : (E.map (·.key))[(S.getD ((h + d) % S.length) 0).toNat - 1]? = some key
        · rw [if_pos c3]
          have := hin _ _ hg
          refine ⟨_, ?_, c3⟩
          rw [hg]
          congr 1
          omega
        · rw [if_neg c3] at hp ⊢; exact ih _ _ hp
theorem findT_true {t : Tb} {key : V} (hs : t.safe) (h : (findT t key).2 = true) : ∃ (q : Nat) (hq : q < t.E.length), t.S[(findT t key).1]? = some ((q : Int) + 1) ∧ t.E[q].key = key := by
  unfold findT at *
  by_cases h0 : t.S.length = 0
  · rw [if_pos h0] at h; simp at h
  · rw [if_neg h0] at h ⊢
    obtain ⟨q, h1, h2⟩ := probe_true (by omega) hs.inE _ _ _ h
    rw [List.getElem?_map] at h2
    obtain ⟨x, hx, hk⟩ := Option.map_eq_some_iff.1 h2
    obtain ⟨hq, he⟩ := List.getElem?_eq_some_iff.1 hx
    exact ⟨q, hq, h1, by rw [he]; exact hk⟩
theorem probe_lt {E : List Ent} {S : List Int} {key : V} {h : Nat} (hS : 0 < S.length) : ∀ (m d : Nat) (f : Option Nat), (∀ x, f = some x → x < S.length) → (probe E S key h m d f).1 < S.length := by
  intro m
  induction m with
  | zero =>
    intro d f hf
    cases f with
    | none => exact hS
    | some x => exact hf x rfl
  | succ m ih =>
    intro d f hf
    have hlt : (h + d) % S.length < S.length := Nat.mod_lt _ hS
    have hfd : f.getD ((h + d) % S.length) < S.length := by
      cases f with
      | none => exact hlt
      | some x => exact hf x rfl
    rw [probe]
    split
    · exact hfd
    · split
      · exact ih _ _ (fun x hx => by simp at hx; omega)
      · split
        · exact hlt
        · exact ih _ _ hf
theorem findT_lt {t : Tb} {key : V} (h : 0 < t.S.length) : (findT t key).1 < t.S.length := by
  unfold findT
  rw [if_neg (by omega)]
  exact probe_lt h _ _ _ (fun x hx => by simp at hx)
theorem slot_cell {w : World} {F : Nat → Prop} {A : Option Addr} {n c : Nat} {S : List Int} (h : Row w F 3 1 (.slice A n c) n (intCells S)) {i : Nat} {s : Int} (hi : S[i]? = some s) : ∃ g, A = some ⟨g, 0, none⟩ ∧ F g ∧ g < w.heap.size ∧ w.cell? ⟨g, i, none⟩ = some (.int .i64 s) ∧ w.frozen? ⟨g, i, none⟩ = false := by
  obtain ⟨b, o, rfl, hc⟩ := Ints.own h.1 i s hi
  have ho : o = 0 := by
    rcases h.1.2 with ⟨he, _⟩ | ⟨g, cap, cur, he, _⟩
    · simp at he
    · simp at he; exact he.1.2
  subst ho
  rw [Nat.zero_add] at hc
  exact ⟨b, rfl, h.2 b rfl, World.block_lt_of_cell? w _ hc, hc, h.1.frozenAt _⟩
set_option maxHeartbeats 4000000 in
theorem table_Get_some (w : World) (F : Nat → Prop) (b : Nat) (t : Tb) (key : V) (h : IsTab w F b t) (hs : t.safe) (hk : key.t.size ≤ 140737488351232) (q : Nat) (hq : q < t.E.length) (hf : (findT t key).2 = true) (hS : t.S[(findT t key).1]? = some ((q : Int) + 1)) :
    Calls Try.prog 54 #[.pointer (some ⟨b, 0, none⟩), key.val] w fun e w' => e = .returned (.tuple #[V.val t.E[q].val, .int .i64 0]) ∧ Keeps (fun _ => False) w w' := by
  have c1 := hidden (fun (W : World) (hK : Keeps (fun _ => False) w W) => table_find W F b t key (h.none hK) hs hk)
  have hi : (findT t key).1 < t.S.length := (List.getElem?_eq_some_iff.1 hS).1
  have hsl : t.S.length ≤ 1073741824 := by
    rcases hs.two with h0 | ⟨m, hm, h0⟩
    · omega
    · rw [h0]; exact Nat.pow_le_pow_right (by decide) hm
  have hel := hs.many
  rw [hf] at c1
  generalize (findT t key).1 = i at *
  obtain ⟨ve, vs, hT⟩ := h
  obtain ⟨Ae, ce, rfl⟩ := hT.ents.form
  obtain ⟨As, cs, rfl⟩ := hT.slots.form
  obtain ⟨gs, rfl, -, -, -, -⟩ := slot_cell hT.slots hS
  obtain ⟨ge, rfl, -, -, -, -⟩ := hT.ents.open8 hq
  have HT := hidden hT
  have HSS := hidden hS
  have HVX := hidden (fun W (hT : TabAt W F b (.slice (some ⟨ge, 0, none⟩) t.E.length ce) (.slice (some ⟨gs, 0, none⟩) t.S.length cs) t) => hT.ents.open8 hq)
  obtain ⟨E, S, live, used, ser⟩ := t
  simp only at *
  clear hT hf hS
  unfold V.val at *
  refine post_gen fun R hR => ?_
  go_enter Try.func54, Try.ntmps54
  go_wp2_with fail
  refine (c1.out _ (((Keeps.refl _ w).alloc _).alloc _)).mono ?_
  rintro e w1 ⟨rfl, hK⟩
  have HK := hidden ((((Keeps.refl (fun _ => False) w).alloc _).alloc _).trans hK (fun _ _ h => h))
  have HV := hidden (show IsVar w1 (w.heap.size + 1) V.null from hK.heap (new2t w _ _) (fun h => h))
  clear hK c1
  have TT := hidden (HT.out.none HK.out)
  have b0 := blk_cell TT.out.blk 0
  have b1 := blk_cell TT.out.blk 1
  simp only [List.getElem?_toArray, List.getElem?_cons_zero, List.getElem?_cons_succ] at b0 b1
  obtain ⟨g', e', -, -, hc, -⟩ := slot_cell TT.out.slots HSS.out
  simp at e'
  subst e'
  obtain ⟨g', e', -, -, ⟨-, -, -, q3, q4, q5, -, -⟩, -⟩ := HVX.out _ TT.out
  simp at e'
  subst e'
  simp only [Nat.zero_add] at q3 q4 q5
  obtain ⟨v0, v1, v2, v3, v4, v5⟩ := HV.out.cells
  simp only [V.null] at v0 v1 v2
  have hvz := blk_lt HV.out
  have hbz := blk_lt TT.out.blk
  have hgz := World.block_lt_of_cell? w1 _ hc
  have hez := World.block_lt_of_cell? w1 _ q3
  have n0 : b < w.heap.size := HT.out.inw b HT.out.here
  have n1 : b ≠ w.heap.size + 1 := by omega
  have m2 : gs < w.heap.size := HT.out.inw gs (HT.out.slots.2 gs rfl)
  have n2 : gs ≠ w.heap.size + 1 := by omega
  have m3 : ge < w.heap.size := HT.out.inw ge (HT.out.ents.2 ge rfl)
  have n3 : ge ≠ w.heap.size + 1 := by omega
  have hq2 : q < E.length := hq
  have hw1 : IntKind.i64.wrap ((q : Int) + 1 - 1) = (q : Int) := by rw [IntKind.wrap_i64]; omega
  generalize E[q] = x at *
  obtain ⟨xk, ⟨yk, yn, yt⟩, xs, xg⟩ := x
  simp only at q3 q4 q5
  go_wp2_with fail
  go_region
  go_wp2_with fail
  obtain ⟨d0, d1, d2, _⟩ := (HV.out.set ⟨yk, yn, yt⟩).cells
  simp only at d0 d1 d2
  exact bodyPost_ret (v := .tuple #[V.val ⟨yk, yn, yt⟩, .int .i64 0]) (by simp [results, Try.results54, go_sem, d0, d1, d2, V.val]) rfl (hR.out _ _ ⟨rfl, (HK.out.var (r := w.heap.size + 1) (fun h => by omega) _ _ _).drew⟩)
end Go.Proofs.Ytfdfjogoiagnkaa
namespace Go.Proofs.Ytfdfjogoiagnkaa
open Go.RowKit
set_option maxRecDepth 100000

def blank (s : Int) : Ent := ⟨V.null, V.null, s, true⟩
theorem table_Delete_none (w : World) (F : Nat → Prop) (b : Nat) (t : Tb) (key : V) (h : IsTab w F b t) (hs : t.safe) (hk : key.t.size ≤ 140737488351232) (hf : (findT t key).2 = false) :
    Calls Try.prog 67 #[.pointer (some ⟨b, 0, none⟩), key.val] w fun e w' => e = .returned (.tuple #[V.val V.null, .int .i64 3]) ∧ Keeps (fun _ => False) w w' := by
  have c1 := hidden (fun (W : World) (hK : Keeps (fun _ => False) w W) => table_find W F b t key (h.none hK) hs hk)
  rw [hf] at c1
  clear h hf
  unfold V.val at *
  refine post_gen fun R hR => ?_
  go_enter Try.func67, Try.ntmps67
  go_wp2_with fail
  refine (c1.out _ (((Keeps.refl _ w).alloc _).alloc _)).mono ?_
  rintro e w1 ⟨rfl, hK⟩
  have HK := hidden ((((Keeps.refl (fun _ => False) w).alloc _).alloc _).trans hK (fun _ _ h => h))
  have HV := hidden (show IsVar w1 (w.heap.size + 1) V.null from hK.heap (new2t w _ _) (fun h => h))
  clear hK c1
  go_wp2_with fail
  refine (value_Null _).mono ?_
  rintro e w2 ⟨rfl, hK⟩
  have HK2 := hidden (HK.out.trans hK (fun _ _ h => h))
  have HV2 := hidden (show IsVar w2 (w.heap.size + 1) V.null from hK.heap HV.out (fun h => h))
  clear hK HV
  obtain ⟨v0, v1, v2, v3, v4, v5⟩ := HV2.out.cells
  have hvz := blk_lt HV2.out
  simp only [V.null] at v0 v1 v2 v3 v4 v5
  unfold V.val V.null
  go_wp2_with fail
  obtain ⟨d0, d1, d2, _⟩ := (HV2.out.set V.null).cells
  simp only [V.null] at d0 d1 d2
  exact bodyPost_ret (v := .tuple #[V.val V.null, .int .i64 3]) (by simp [results, Try.results67, go_sem, d0, d1, d2, V.val, V.null]) rfl (hR.out _ _ ⟨rfl, HK2.out.var (r := w.heap.size + 1) (fun h => by omega) _ _ _⟩)

theorem intCells_set (S : List Int) (i : Nat) (s : Int) : (intCells S).set i (.int .i64 s) = intCells (S.set i s) := by simp [intCells, List.map_set]
theorem slot_set {w : World} {F : Nat → Prop} {g n c : Nat} {S : List Int} (h : Row w F 3 1 (.slice (some ⟨g, 0, none⟩) n c) n (intCells S)) (i : Nat) (s : Int) : Row (w.setCell ⟨g, i, none⟩ (.int .i64 s)) F 3 1 (.slice (some ⟨g, 0, none⟩) n c) n (intCells (S.set i s)) := by
  have h3 := h.1.stored i (.int .i64 s)
  rw [intCells_set] at h3
  exact ⟨h3.1, h.2⟩
theorem tab_slot {w : World} {F : Nat → Prop} {b g c : Nat} {ve : Value} {t : Tb} (h : TabAt w F b ve (.slice (some ⟨g, 0, none⟩) t.S.length c) t) (i : Nat) (s : Int) :
    TabAt (w.setCell ⟨g, i, none⟩ (.int .i64 s)) F b ve (.slice (some ⟨g, 0, none⟩) t.S.length c) { t with S := t.S.set i s } ∧ Keeps F w (w.setCell ⟨g, i, none⟩ (.int .i64 s)) := by
  have hF : F g := h.slots.2 g rfl
  have hk : Keeps F w (w.setCell ⟨g, i, none⟩ (.int .i64 s)) := (Keeps.refl F w).setCell (p := ⟨g, i, none⟩) (fun _ => hF) _
  have n1 : g ≠ b := h.slots.ne h.blk (by decide) g rfl
  refine ⟨⟨blk_far h.blk (p := ⟨g, i, none⟩) (fun e => n1 e.symm) _, h.here, ?_, ?_, h.inw.keeps hk⟩, hk⟩
  · refine h.ents.set (p := ⟨g, i, none⟩) (fun k hk2 e => ?_) _
    obtain ⟨cs1, h1⟩ := own_typed h.ents.1 k hk2
    have e' : k = g := e
    subst e'
    exact h.slots.ne h1 (by decide) k rfl rfl
  · have := slot_set h.slots i s
    simpa using this
theorem tab_num {w : World} {F : Nat → Prop} {b i : Nat} {ve vs : Value} {t t' : Tb} {n : Int} (h : TabAt w F b ve vs t) (hE : t'.E = t.E) (hS : t'.S = t.S) (hi : (#[ve, vs, .int .i64 t.live, .int .i64 t.used, .int .i64 t.ser] : Array Value).setIfInBounds i (.int .i64 n) = #[ve, vs, .int .i64 t'.live, .int .i64 t'.used, .int .i64 t'.ser]) :
    TabAt (w.setCell ⟨b, i, none⟩ (.int .i64 n)) F b ve vs t' ∧ Keeps F w (w.setCell ⟨b, i, none⟩ (.int .i64 n)) := by
  have hk : Keeps F w (w.setCell ⟨b, i, none⟩ (.int .i64 n)) := (Keeps.refl F w).setCell (p := ⟨b, i, none⟩) (fun _ => h.here) _
  refine ⟨⟨?_, h.here, ?_, ?_, h.inw.keeps hk⟩, hk⟩
  · rw [← hi]; exact blk_set h.blk i _
  · rw [hE]; exact h.ents.set (p := ⟨b, i, none⟩) (h.ents.ne h.blk (by decide)) _
  · rw [hS]; exact h.slots.set (p := ⟨b, i, none⟩) (h.slots.ne h.blk (by decide)) _
end Go.Proofs.Ytfdfjogoiagnkaa
namespace Go.Proofs.Ytfdfjogoiagnkaa
open Go.RowKit
set_option maxRecDepth 100000

def fillT (E : List Ent) : Nat → List Int → List Int
  | 0, S => S
  | j + 1, S => (fillT E j S).set (findT ⟨E, fillT E j S, 0, 0, 0⟩ (E.getD j (blank 0)).key).1 ((j : Int) + 1)
theorem fillT_length (E : List Ent) (S : List Int) : ∀ j, (fillT E j S).length = S.length := by
  intro j
  induction j with
  | zero => rfl
  | succ j ih => rw [fillT, List.length_set, ih]
theorem fillT_in (E : List Ent) (n : Nat) : ∀ j, ∀ (i : Nat) (s : Int), (fillT E j (List.replicate n 0))[i]? = some s → s = 0 ∨ s = -1 ∨ (1 ≤ s ∧ s ≤ (j : Int)) := by
  intro j
  induction j with
  | zero =>
    intro i s h
    rw [fillT, List.getElem?_replicate] at h
    split at h
    · simp at h; exact .inl h.symm
    · simp at h
  | succ j ih =>
    intro i s h
    rw [fillT, List.getElem?_set] at h
    split at h
    · split at h
      · simp at h; subst h; exact .inr (.inr ⟨by omega, by omega⟩)
      · simp at h
    · rcases ih i s h with h | h | ⟨h1, h2⟩
      · exact .inl h
      · exact .inr (.inl h)
      · exact .inr (.inr ⟨h1, by omega⟩)
theorem made_int (n : Nat) : (madeCells (Value.int .i64 0).cells (n * 1)).toList = intCells (List.replicate n 0) := by
  apply List.ext_getElem?
  intro i
  by_cases h : i < n <;> simp [madeCells, intCells, Value.cells, h, Nat.mod_one]
set_option maxHeartbeats 4000000 in
theorem table_rehash (w : World) (F : Nat → Prop) (b : Nat) (t : Tb) (h : IsTab w F b t) (hs : t.safe) (hlive : t.live = (stay t.E).length) (hl : t.live ≤ 1048576) (hkeys : ∀ x ∈ t.E, x.key.t.size ≤ 140737488351232) :
    Calls Try.prog 62 #[.pointer (some ⟨b, 0, none⟩)] w fun e w' => ∃ (F' : Nat → Prop) (m : Nat), e = .returned (.tuple #[]) ∧ 2 ≤ m ∧ m ≤ 30 ∧ 4 * ((stay t.E).length + 1) ≤ 2 * 2 ^ m ∧ IsTab w' F' b ⟨stay t.E, fillT (stay t.E) (stay t.E).length (List.replicate (2 ^ m) 0), t.live, t.live, t.ser⟩ ∧ Keeps F w w' ∧ Fresh F F' w := by
  obtain ⟨ve, vs, hT⟩ := h
  obtain ⟨Ae, ce, rfl⟩ := hT.ents.form
  have HT := hidden hT
  obtain ⟨E, S, live, used, ser⟩ := t
  simp only at *
  have HKY := hidden (show ∀ x ∈ stay E, x.key.t.size ≤ 140737488351232 from fun x hx => hkeys x (List.mem_filter.1 hx).1)
  have hen := hs.many
  simp only at hen
  have hsn : (stay E).length ≤ E.length := List.length_filter_le _ _
  have b2 := blk_cell hT.blk 2
  have b0 := blk_cell hT.blk 0
  have b0f := blk_frozen hT.blk 0
  have hbz := blk_lt hT.blk
  simp only [List.getElem?_toArray, List.getElem?_cons_zero, List.getElem?_cons_succ] at b0 b2
  have HLV := hidden hlive
  have hlv1 : 0 ≤ live := by omega
  have kd := hidden (fun (W : World) (hK : Keeps (fun _ => False) w W) => delete_gone W F Ae ce E (hT.ents.keeps hK (Apart.no _)) hen)
  have hl4 : IntKind.i64.wrap (live + 1) = live + 1 := by rw [IntKind.wrap_i64]; omega
  have hl5 : IntKind.i64.wrap (4 * (live + 1)) = 4 * (live + 1) := by rw [IntKind.wrap_i64]; omega
  clear hT hs hlive hkeys
  refine post_gen fun R hR => ?_
  go_enter Try.func62, Try.ntmps62
  go_wp2_with fail
  go_loop [2] (fun s => ∃ m : Nat, 2 ≤ m ∧ m ≤ 30 ∧ s = .int .i64 ((2 ^ m : Nat) : Int)) (fun s => 4294967296 - (intOf s).toNat)
  case atStart => exact ⟨2, by decide, by decide, rfl⟩
  case round =>
    obtain ⟨m, hm2, hm, rfl⟩ := hrel
    have hle : 2 ^ m ≤ 1073741824 := Nat.pow_le_pow_right (by decide) hm
    have h4 : 4 ≤ 2 ^ m := Nat.pow_le_pow_right (n := 2) (i := 2) (by decide) hm2
    have HP := hidden (show 2 ^ (m + 1) = 2 ^ m * 2 from Nat.pow_succ 2 m)
    have HMZ := hidden (show 2 ^ m = 2 ^ m from rfl)
    generalize hsz : 2 ^ m = sz at *
    have HSZ := hidden hsz
    clear hsz
    have hz1 : IntKind.i64.wrap (2 * (sz : Int)) = 2 * (sz : Int) := by rw [IntKind.wrap_i64]; omega
    have hz2 : IntKind.i64.wrap ((sz : Int) * 2) = (sz : Int) * 2 := by rw [IntKind.wrap_i64]; omega
    by_cases hlt : 2 * (sz : Int) < 4 * (live + 1)
    · go_wp2_with fail
      go_round
      case rel =>
        refine ⟨m + 1, by omega, ?_, by rw [HP.out]; go_num⟩
        refine Classical.byContradiction fun hc => ?_
        have hm30 : m = 30 := by omega
        have := HSZ.out
        rw [hm30] at this
        omega
      case measure => simp [intOf]; omega
    · go_wp2_with fail
      refine (kd.out w (Keeps.refl _ w)).mono ?_
      rintro e w1 ⟨rfl, hrow, hK⟩
      have hd := hK.heap HT.out.blk (fun e => HT.out.ents.ne HT.out.blk (by decide) b e rfl)
      have HD := hidden hd
      have hsl : Row w1 F 3 1 vs S.length (intCells S) := ⟨ownsRow_move HT.out.slots.1 (fun k hk => hK.block k (HT.out.slots.lt k hk) (fun e => by
        obtain ⟨cs1, h1⟩ := own_typed HT.out.slots.1 k hk
        exact HT.out.ents.ne h1 (by decide) k e rfl)), HT.out.slots.2⟩
      have hKF : Keeps F w w1 := hK.mono (fun k _ e => HT.out.ents.2 k e)
      have T1 := hidden (show TabAt (w1.setCell ⟨b, 0, none⟩ (.slice Ae (stay E).length ce)) F b (.slice Ae (stay E).length ce) vs ⟨stay E, S, live, used, ser⟩ from
        ⟨blk_set hd 0 _, HT.out.here, hrow.set (p := ⟨b, 0, none⟩) (hrow.ne hd (by decide)) _, hsl.set (p := ⟨b, 0, none⟩) (hsl.ne hd (by decide)) _, HT.out.inw.keeps (hKF.setCell (p := ⟨b, 0, none⟩) (fun _ => HT.out.here) (.slice Ae (stay E).length ce))⟩)
      have HK1 := hidden (hKF.setCell (p := ⟨b, 0, none⟩) (fun _ => HT.out.here) (.slice Ae (stay E).length ce))
      have c0 := blk_cell hd 0
      have c0f := blk_frozen hd 0
      have hbw := blk_lt hd
      simp only [List.getElem?_toArray, List.getElem?_cons_zero, List.getElem?_cons_succ] at c0
      clear hrow hK hd hsl hKF b0 b2 b0f kd
      obtain ⟨i0, hi0, hz0, hs0, hb0⟩ := info_parts info_int
      have hsz : (sz : Int) ≤ 1073741824 := by omega
      go_wp2_with (at_make; refine wpList_make_full _ rfl _ _ _ rfl 0 3 i0 _ 1 Try.underlying47 hi0 hz0 hs0 .i64 .i64 (sz : Int) (sz : Int) sz rfl rfl rfl rfl (by rw [hb0]; omega) (by unfold maxLen; omega) (Nat.zero_le _) ?_; intro w3 hown hgrow; have HO := hidden hown; have HG := hidden hgrow; have hk3 := (Keeps.refl (fun _ => False) _).grown HG.out (fun k h => by cases h); have T3 := hidden (T1.out.none hk3); have HK3 := hidden hk3; have b1 := blk_cell T3.out.blk 1; have b1f := blk_frozen T3.out.blk 1; have b2 := blk_cell T3.out.blk 2; have b3 := blk_cell T3.out.blk 3; have b3f := blk_frozen T3.out.blk 3; have b0 := blk_cell T3.out.blk 0; have hbz3 := blk_lt T3.out.blk; simp only [List.getElem?_toArray, List.getElem?_cons_zero, List.getElem?_cons_succ] at b0 b1 b2 b3; clear hown hgrow hk3)
      have hown := HO.out
      rw [made_int sz] at hown
      have hg1 : (w1.setCell ⟨b, 0, none⟩ (.slice Ae (stay E).length ce)).heap.size = w1.heap.size := by simp [World.setCell]
      have hgs : w1.heap.size < w3.heap.size := by have := (hown.lt _ rfl).2; simp [World.setCell] at this; exact this
      have hww : w.heap.size ≤ w1.heap.size := by have := HK1.out.size; rw [hg1] at this; exact this
      rw [hg1] at hown
      have hrow3 : Row w3 (fun k => F k ∨ k = w1.heap.size) 3 1 (.slice (some ⟨w1.heap.size, 0, none⟩) sz sz) sz (intCells (List.replicate sz 0)) := ⟨hown, fun k hk => by simp [Value.ownBlock] at hk; exact .inr hk.symm⟩
      have HLR := hidden (show (List.replicate sz (0 : Int)).length = sz from List.length_replicate)
      have T5 : TabAt ((w3.setCell ⟨b, 1, none⟩ (.slice (some ⟨w1.heap.size, 0, none⟩) sz sz)).setCell ⟨b, 3, none⟩ (.int .i64 live)) (fun k => F k ∨ k = w1.heap.size) b (.slice Ae (stay E).length ce) (.slice (some ⟨w1.heap.size, 0, none⟩) sz sz) ⟨stay E, List.replicate sz 0, live, live, ser⟩ := by
        refine ⟨blk_set (blk_set T3.out.blk 1 _) 3 _, .inl HT.out.here, ?_, ?_, ?_⟩
        · exact ((T3.out.ents.set (p := ⟨b, 1, none⟩) (T3.out.ents.ne T3.out.blk (by decide)) _).set (p := ⟨b, 3, none⟩) (T3.out.ents.ne T3.out.blk (by decide)) _).mono (fun _ _ h => .inl h)
        · have h := (hrow3.set (p := ⟨b, 1, none⟩) (hrow3.ne T3.out.blk (by decide)) (.slice (some ⟨w1.heap.size, 0, none⟩) sz sz)).set (p := ⟨b, 3, none⟩) (hrow3.ne T3.out.blk (by decide)) (.int .i64 live)
          simpa using h
        · intro k hk
          simp [World.setCell]
          rcases hk with hk | hk
          · exact T3.out.inw k hk
          · omega
      have K5 : Keeps F w ((w3.setCell ⟨b, 1, none⟩ (.slice (some ⟨w1.heap.size, 0, none⟩) sz sz)).setCell ⟨b, 3, none⟩ (.int .i64 live)) := ((HK1.out.trans HK3.out (fun _ _ h => h.elim)).setCell (p := ⟨b, 1, none⟩) (fun _ => HT.out.here) _).setCell (p := ⟨b, 3, none⟩) (fun _ => HT.out.here) _
      have TT5 := hidden T5
      have KK5 := hidden K5
      have HWW := hidden hww
      have hnl : ((stay E).length : Int) = live := HLV.out.symm
      have HLT := hidden (show 4 * ((stay E).length + 1) ≤ 2 * sz by omega)
      clear hown hg1 hgs hww hrow3 T5 K5 b0 b1 b1f b2 b3 b3f c0 c0f HO HG hbz3 HD T1 HK1 T3 HK3 hnl hlt
      generalize (w3.setCell ⟨b, 1, none⟩ (.slice (some ⟨w1.heap.size, 0, none⟩) sz sz)).setCell ⟨b, 3, none⟩ (.int .i64 live) = w5 at *
      generalize w1.heap.size = gs at *
      generalize hEE : stay E = E' at *
      clear hEE
      go_loopw [43] (fun i wr => ∃ j : Nat, j ≤ E'.length ∧ i = .int .i64 j ∧ TabAt wr (fun k => F k ∨ k = gs) b (.slice Ae E'.length ce) (.slice (some ⟨gs, 0, none⟩) sz sz) ⟨E', fillT E' j (List.replicate sz 0), live, live, ser⟩ ∧ Keeps (fun k => F k ∨ k = gs) w5 wr) (fun i _ => E'.length - (intOf i).toNat)
      case atStart => exact ⟨0, Nat.zero_le _, rfl, TT5.out, Keeps.refl _ _⟩
      case round =>
        obtain ⟨j, hj, rfl, hTr, hKr⟩ := hrel
        have TTr := hidden hTr
        have HKr := hidden hKr
        by_cases hlt : j < E'.length
        · have hSl : (fillT E' j (List.replicate sz 0)).length = sz := by rw [fillT_length, HLR.out]
          have hKY := HKY.out E'[j] (List.getElem_mem hlt)
          have hsafe : (Tb.mk E' (fillT E' j (List.replicate sz 0)) live live ser).safe := ⟨.inr ⟨m, hm, by show (fillT E' j _).length = _; rw [hSl, HSZ.out]⟩, fun i s hi => by
            rcases fillT_in E' sz j i s hi with h | h | ⟨h1, h2⟩
            · exact .inl h
            · exact .inr (.inl h)
            · exact .inr (.inr ⟨h1, by show s ≤ (E'.length : Int); omega⟩), by show E'.length ≤ _; omega⟩
          have c1 := hidden (fun (W : World) (hK : Keeps (fun _ => False) wr W) => table_find W (fun k => F k ∨ k = gs) b _ E'[j].key ⟨_, _, TTr.out.none hK⟩ hsafe hKY)
          have hfi : (findT ⟨E', fillT E' j (List.replicate sz 0), live, live, ser⟩ E'[j].key).1 < sz := by
            have := findT_lt (t := ⟨E', fillT E' j (List.replicate sz 0), live, live, ser⟩) (key := E'[j].key) (by show 0 < (fillT E' j _).length; rw [hSl]; omega)
            simp only [hSl] at this
            exact this
          have HFT := hidden (show fillT E' (j + 1) (List.replicate sz 0) = (fillT E' j (List.replicate sz 0)).set (findT ⟨E', fillT E' j (List.replicate sz 0), live, live, ser⟩ E'[j].key).1 ((j : Int) + 1) by
            rw [fillT, List.getD_eq_getElem?_getD, List.getElem?_eq_getElem hlt]; rfl)
          obtain ⟨ge, oe, rfl, ⟨e0, e1, e2, e3, e4, e5, e6, e7⟩⟩ := Ents.own TTr.out.ents.1 j E'[j] (List.getElem?_eq_getElem hlt)
          have hge := World.block_lt_of_cell? wr _ e0
          have HSL := hidden hSl
          clear hSl hsafe hKY hTr hKr
          generalize (findT ⟨E', fillT E' j (List.replicate sz 0), live, live, ser⟩ E'[j].key).1 = fi at *
          generalize (findT ⟨E', fillT E' j (List.replicate sz 0), live, live, ser⟩ E'[j].key).2 = fb at *
          generalize E'[j] = x at *
          obtain ⟨xk, xv, xs, xg⟩ := x
          simp only at e0 e1 e2 e3 e4 e5 e6 e7 c1
          unfold V.val at c1
          have hjw : IntKind.i64.wrap ((j : Int) + 1) = (j : Int) + 1 := by rw [IntKind.wrap_i64]; omega
          go_wp2_with fail
          refine (c1.out _ ((Keeps.refl _ wr).alloc _)).mono ?_
          rintro e w6 ⟨rfl, hK⟩
          have HK6 := hidden (((Keeps.refl (fun _ => False) wr).alloc _).trans hK (fun _ _ h => h))
          clear hK c1
          have TT6 := hidden (TTr.out.none HK6.out)
          have b1 := blk_cell TT6.out.blk 1
          simp only [List.getElem?_toArray, List.getElem?_cons_zero, List.getElem?_cons_succ] at b1
          obtain ⟨s0, hs0⟩ : ∃ s0, (fillT E' j (List.replicate sz 0))[fi]? = some s0 := ⟨_, List.getElem?_eq_getElem (by rw [HSL.out]; exact hfi)⟩
          obtain ⟨g', e', -, hgs, hc, hcf⟩ := slot_cell (h := by have := TT6.out.slots; rw [HSL.out] at this; exact this) hs0
          simp at e'
          subst e'
          have T7 := hidden (tab_slot (t := ⟨E', fillT E' j (List.replicate sz 0), live, live, ser⟩) (g := gs) (c := sz) (by have := TT6.out; show TabAt _ _ _ _ (.slice _ (fillT E' j (List.replicate sz 0)).length _) _; rw [HSL.out]; exact this) fi ((j : Int) + 1))
          have hbz6 := blk_lt TT6.out.blk
          clear hs0
          go_wp2_with fail
          go_roundw
          case rel =>
            refine ⟨j + 1, hlt, by go_num, ?_, (HKr.out.trans HK6.out (fun _ _ h => h.elim)).trans T7.out.2 (fun _ _ h => h)⟩
            have h7 := T7.out.1
            rw [← HFT.out] at h7
            have e8 : (fillT E' j (List.replicate sz 0)).length = sz := HSL.out
            simpa only [e8] using h7
          case measure => simp [intOf]; omega
        · obtain rfl : j = E'.length := by omega
          go_wp2_with fail
          go_end0
          refine hR.out _ _ ⟨fun k => F k ∨ k = gs, m, rfl, hm2, hm, ?_, ⟨.slice Ae E'.length ce, .slice (some ⟨gs, 0, none⟩) sz sz, ?_⟩, KK5.out.trans HKr.out (fun i hi h => ?_), fun k h => ?_⟩
          · rw [HSZ.out]; exact HLT.out
          · rw [HSZ.out]; exact TTr.out
          · rcases h with h | h
            · exact h
            · have := HWW.out; omega
          · rcases h with h | h
            · exact .inl h
            · exact .inr (by have := HWW.out; omega)
end Go.Proofs.Ytfdfjogoiagnkaa
namespace Go.Proofs.Ytfdfjogoiagnkaa
open Go.RowKit
set_option maxRecDepth 100000

def putT (t : Tb) (key val : V) : Tb :=
  ⟨t.E ++ [⟨key, val, t.ser + 1, false⟩], t.S.set (findT t key).1 ((t.E.length : Int) + 1), t.live + 1, if t.S.getD (findT t key).1 0 = (0 : Int) then t.used + 1 else t.used, t.ser + 1⟩
theorem tab_grew {w w6 : World} {F : Nat → Prop} {b n : Nat} {ve vs v6 : Value} {t : Tb} {e : Ent} {o : Obj} (h : TabAt w F b ve vs t) (hn : n = t.E.length + 1)
    (hR : Row w6 (fun k => F k ∨ (w.alloc o).heap.size ≤ k) 116 8 v6 n (flatE t.E ++ flatE [e])) (hK : Keeps (fun k => ve.ownBlock = some k) (w.alloc o) w6) :
    ∃ F2 : Nat → Prop, TabAt (w6.setCell ⟨b, 0, none⟩ v6) F2 b v6 vs { t with E := t.E ++ [e] } ∧ Keeps F w (w6.setCell ⟨b, 0, none⟩ v6) ∧ Fresh F F2 w := by
  subst hn
  have hk0 : Keeps F w w6 := (((Keeps.refl F w).alloc o).trans (hK.mono (fun k _ e => h.ents.2 k e)) (fun _ _ h => h))
  have hd : w6.heap[b]? = some (.cells #[ve, vs, .int .i64 t.live, .int .i64 t.used, .int .i64 t.ser] 110 (0, 0)) := hK.heap (blk_alloc h.blk o) (fun e => h.ents.ne h.blk (by decide) b e rfl)
  have hsz : w.heap.size + 1 ≤ w6.heap.size := by have := hK.size; simpa using this
  have hk7 : Keeps F w (w6.setCell ⟨b, 0, none⟩ v6) := hk0.setCell (p := ⟨b, 0, none⟩) (fun _ => h.here) v6
  have hs7 : (w6.setCell ⟨b, 0, none⟩ v6).heap.size = w6.heap.size := by simp [World.setCell]
  refine ⟨fun k => (F k ∨ w.heap.size ≤ k) ∧ k < w6.heap.size, ⟨blk_set hd 0 _, ⟨.inl h.here, blk_lt hd⟩, ?_, ?_, fun k hk => by rw [hs7]; exact hk.2⟩, hk7, fun k hk => hk.1⟩
  · have hr : Row w6 (fun k => (F k ∨ w.heap.size ≤ k) ∧ k < w6.heap.size) 116 8 v6 (t.E.length + 1) (flatE (t.E ++ [e])) := by
      rw [flatE_append]
      exact hR.mono (fun k hlt hk => ⟨hk.imp id (fun h => by simp at h; omega), hlt⟩)
    have := hr.set (p := ⟨b, 0, none⟩) (hr.ne hd (by decide)) v6
    simpa using this
  · have hs : Row w6 F 3 1 vs t.S.length (intCells t.S) := ⟨ownsRow_move (h.slots.alloc o).1 (fun k hk => hK.block k ((h.slots.alloc o).lt k hk) (fun e => by
      obtain ⟨cs1, h1⟩ := own_typed h.slots.1 k hk
      exact h.ents.ne h1 (by decide) k e rfl)), h.slots.2⟩
    exact (hs.set (p := ⟨b, 0, none⟩) (hs.ne hd (by decide)) v6).mono (fun k hlt hk => ⟨.inl hk, by rw [hs7] at hlt; exact hlt⟩)
theorem ent_src (w : World) (x : Ent) {m : Nat} (hm : m = w.heap.size) : Src Try.prog 8 108 (.slice (some ⟨m, 0, none⟩) 1 1) 1 (flatE [x]) (w.alloc x.obj).drew := by
  subst hm
  refine Src.ofSlice _ Try.underlying108 _ _ 1 _ (by rw [flatE_length]; rfl) (fun j u hj => ?_) (flatE_one _)
  rw [add_at3, Nat.zero_add]
  show (w.alloc x.obj).cell? _ = _
  unfold Ent.obj
  rw [blk_cell (blk_new w _)]
  simpa [flatE, Ent.cells] using hj
theorem flatE_val (E : List Ent) (y : V) : ∀ (i : Nat) (hi : i < E.length), (((flatE E).set (i * 8 + 3) (.int .i64 y.k)).set (i * 8 + 4) (.int .i64 y.n)).set (i * 8 + 5) (.string y.t) = flatE (E.set i { E[i] with val := y }) := by
  induction E with
  | nil => intro i h; simp at h
  | cons x xs ih =>
    intro i hi
    have e : flatE (x :: xs) = x.cells ++ flatE xs := by simp [flatE]
    cases i with
    | zero =>
      rw [e]
      simp [Ent.cells, flatE]
    | succ i =>
      have e2 : flatE ((x :: xs).set (i + 1) { (x :: xs)[i + 1] with val := y }) = x.cells ++ flatE (xs.set i { xs[i]'(by simpa using hi) with val := y }) := by simp [flatE]
      have h8 : x.cells.length = 8 := rfl
      have k : ∀ (L : List Value) (j : Nat) (v : Value), (x.cells ++ L).set ((i + 1) * 8 + j) v = x.cells ++ L.set (i * 8 + j) v := fun L j v => by
        rw [List.set_append_right _ _ (by rw [h8]; omega), h8]
        congr 2
        omega
      rw [e, e2, k, k, k, ih i (by simpa using hi)]
def putv (w : World) (g q : Nat) (y : V) : World := ((w.setCell ⟨g, q * 8 + 3, none⟩ (.int .i64 y.k)).setCell ⟨g, q * 8 + 4, none⟩ (.int .i64 y.n)).setCell ⟨g, q * 8 + 5, none⟩ (.string y.t)
theorem tab_val {w : World} {F : Nat → Prop} {b g c : Nat} {vs : Value} {t : Tb} (h : TabAt w F b (.slice (some ⟨g, 0, none⟩) t.E.length c) vs t) {q : Nat} (hq : q < t.E.length) (y : V) :
    TabAt (putv w g q y) F b (.slice (some ⟨g, 0, none⟩) t.E.length c) vs { t with E := t.E.set q { t.E[q] with val := y } } ∧ Keeps F w (putv w g q y) := by
  have hs : SameBut g w (putv w g q y) := (((SameBut.refl g w).set _ _).set _ _).set _ _
  have hF : F g := h.ents.2 g rfl
  have hk : Keeps F w (putv w g q y) := hs.keeps.mono (fun k _ e => e ▸ hF)
  have n1 : g ≠ b := h.ents.ne h.blk (by decide) g rfl
  refine ⟨⟨(hs.block b (fun e => n1 e.symm)).trans h.blk, h.here, ?_, ?_, h.inw.keeps hk⟩, hk⟩
  · have h3 := ((h.ents.1.stored (q * 8 + 3) (.int .i64 y.k)).1.stored (q * 8 + 4) (.int .i64 y.n)).1.stored (q * 8 + 5) (.string y.t)
    rw [flatE_val t.E y q hq] at h3
    have : Row (putv w g q y) F 116 8 (.slice (some ⟨g, 0, none⟩) t.E.length c) t.E.length (flatE (t.E.set q { t.E[q] with val := y })) := ⟨h3.1, h.ents.2⟩
    simpa using this
  · refine ⟨ownsRow_move h.slots.1 (fun k hk2 => hs.block k (fun e => ?_)), h.slots.2⟩
    obtain ⟨cs1, h1⟩ := own_typed h.slots.1 k hk2
    subst e
    exact h.ents.ne h1 (by decide) k rfl rfl

set_option maxHeartbeats 4000000 in
theorem table_Put_there (w : World) (F : Nat → Prop) (b : Nat) (t : Tb) (key val : V) (h : IsTab w F b t) (hs : t.safe) (hk : key.t.size ≤ 140737488351232) (h0 : key.k ≠ 0) (q : Nat) (hq : q < t.E.length) (hf : (findT t key).2 = true) (hS : t.S[(findT t key).1]? = some ((q : Int) + 1)) :
    Calls Try.prog 30 #[.pointer (some ⟨b, 0, none⟩), key.val, val.val] w fun e w' => e = .returned (.int .i64 0) ∧ IsTab w' F b { t with E := t.E.set q { t.E[q] with val := val } } ∧ Keeps F w w' := by
  have c1 := hidden (fun (W : World) (hK : Keeps (fun _ => False) w W) => table_find W F b t key (h.none hK) hs hk)
  rw [hf] at c1
  have hi0 : (key.k == 0) = false := by rw [beq_eq_false_iff_ne]; exact h0
  have hi : (findT t key).1 < t.S.length := (List.getElem?_eq_some_iff.1 hS).1
  have hsl : t.S.length ≤ 1073741824 := by
    rcases hs.two with h0 | ⟨m, hm, h0⟩
    · omega
    · rw [h0]; exact Nat.pow_le_pow_right (by decide) hm
  have hel := hs.many
  generalize (findT t key).1 = i at *
  obtain ⟨ve, vs, hT⟩ := h
  obtain ⟨Ae, ce, rfl⟩ := hT.ents.form
  obtain ⟨As, cs, rfl⟩ := hT.slots.form
  obtain ⟨gs, rfl, -, -, -, -⟩ := slot_cell hT.slots hS
  obtain ⟨ge, rfl, -, -, -, -⟩ := hT.ents.open8 hq
  have HT := hidden hT
  have HSS := hidden hS
  have HVX := hidden (fun W (hT : TabAt W F b (.slice (some ⟨ge, 0, none⟩) t.E.length ce) (.slice (some ⟨gs, 0, none⟩) t.S.length cs) t) => hT.ents.open8 hq)
  obtain ⟨E, S, live, used, ser⟩ := t
  have hq2 : q < E.length := hq
  simp only at *
  have HBK := hidden (show IsVar ((w.alloc (.cells #[.int .i64 key.k, .int .i64 key.n, .string key.t] 26)).alloc (.cells #[.int .i64 val.k, .int .i64 val.n, .string val.t] 26)) w.heap.size key from blk_alloc (blk_new w _) _)
  have HBV := hidden (show IsVar ((w.alloc (.cells #[.int .i64 key.k, .int .i64 key.n, .string key.t] 26)).alloc (.cells #[.int .i64 val.k, .int .i64 val.n, .string val.t] 26)) (w.heap.size + 1) val from new2t w _ _)
  have HK0 := hidden (show Keeps (fun _ => False) w ((w.alloc (.cells #[.int .i64 key.k, .int .i64 key.n, .string key.t] 26)).alloc (.cells #[.int .i64 val.k, .int .i64 val.n, .string val.t] 26)) from ((Keeps.refl _ w).alloc _).alloc _)
  clear hT hf hS
  unfold V.val at *
  refine post_gen fun R hR => ?_
  go_enter Try.func30, Try.ntmps30
  go_wp2_with fail
  refine (c1.out _ HK0.out).mono ?_
  rintro e w1 ⟨rfl, hK⟩
  have HK1 := hidden (HK0.out.trans hK (fun _ _ h => h))
  have HBV1 := hidden (show IsVar w1 (w.heap.size + 1) val from hK.heap HBV.out (fun h => h))
  clear hK c1
  have TT := hidden (HT.out.none HK1.out)
  have b0 := blk_cell TT.out.blk 0
  have b1 := blk_cell TT.out.blk 1
  simp only [List.getElem?_toArray, List.getElem?_cons_zero, List.getElem?_cons_succ] at b0 b1
  obtain ⟨g', e', -, -, hc, -⟩ := slot_cell TT.out.slots HSS.out
  simp at e'
  subst e'
  obtain ⟨g', e', -, -, ⟨-, -, -, q3, q4, q5, -, -⟩, hfz⟩ := HVX.out _ TT.out
  simp at e'
  subst e'
  simp only [Nat.zero_add] at q3 q4 q5
  have f3 := hfz (q * 8 + 3)
  have f4 := hfz (q * 8 + 4)
  have f5 := hfz (q * 8 + 5)
  obtain ⟨v0, v1, v2, -⟩ := HBV1.out.cells
  have hw1 : IntKind.i64.wrap ((q : Int) + 1 - 1) = (q : Int) := by rw [IntKind.wrap_i64]; omega
  have hqi : (q : Int) < (E.length : Int) := by omega
  clear hfz
  go_wp2_with fail
  go_region
  go_wp2_with fail
  obtain ⟨t3, k3⟩ := tab_val (t := ⟨E, S, live, used, ser⟩) TT.out hq2 val
  exact hR.out _ _ ⟨rfl, ⟨_, _, t3.none ((Keeps.refl _ _).drewN 1)⟩, ((HK1.out.mono (T := F) (fun _ _ h => h.elim)).trans k3 (fun _ _ h => h)).drew⟩
end Go.Proofs.Ytfdfjogoiagnkaa
namespace Go.Proofs.Ytfdfjogoiagnkaa
open Go.RowKit
set_option maxRecDepth 100000
set_option linter.unusedSimpArgs false

structure Tb.room (t : Tb) : Prop where
  ser : 0 ≤ t.ser ∧ t.ser ≤ 1099511627776
  used : 0 ≤ t.used ∧ t.used ≤ (t.S.length : Int)
  live : 0 ≤ t.live ∧ t.live < 1048576
  many : t.E.length < 1073741824
theorem setcell_keep {W : World} {p q : Addr} {v u : Value} (h : W.cell? q = some u) (hn : p ≠ q) : (W.setCell p v).cell? q = some u := by rw [World.cell?_setCell_other (h := hn)]; exact h
theorem Keeps.undrewn {S : Nat → Prop} {w w1 : World} (h : Keeps S w.drew w1) : Keeps S w w1 := ⟨h.os, h.tape, h.output, h.size, h.block⟩
set_option maxHeartbeats 8000000 in
theorem table_Put_plain (w : World) (F : Nat → Prop) (b : Nat) (t : Tb) (key val : V) (h : IsTab w F b t) (hs : t.safe) (hk : key.t.size ≤ 140737488351232) (h0 : key.k ≠ 0) (hf : (findT t key).2 = false) (hr : t.room) (hp : 4 * (t.used + 1) ≤ 3 * (t.S.length : Int)) :
    Calls Try.prog 30 #[.pointer (some ⟨b, 0, none⟩), key.val, val.val] w fun e w' => ∃ F' : Nat → Prop, e = .returned (.int .i64 0) ∧ IsTab w' F' b (putT t key val) ∧ Keeps F w w' ∧ Fresh F F' w := by
  have c1 := hidden (fun (W : World) (hK : Keeps (fun _ => False) w W) => table_find W F b t key (h.none hK) hs hk)
  have H := hidden h
  have hi0 : (key.k == 0) = false := by rw [beq_eq_false_iff_ne]; exact h0
  have hsl : t.S.length ≤ 1073741824 := by
    rcases hs.two with h0 | ⟨m, hm, h0⟩
    · omega
    · rw [h0]; exact Nat.pow_le_pow_right (by decide) hm
  have hS0 : 0 < t.S.length := by have := hr.used; omega
  have hfi := findT_lt (t := t) (key := key) hS0
  obtain ⟨⟨hr1, hr2⟩, ⟨hu1, hu2⟩, ⟨hv1, hv2⟩, hm⟩ := hr
  have HBK := hidden (show IsVar ((w.alloc (.cells #[.int .i64 key.k, .int .i64 key.n, .string key.t] 26)).alloc (.cells #[.int .i64 val.k, .int .i64 val.n, .string val.t] 26)) w.heap.size key from blk_alloc (blk_new w _) _)
  have HBV := hidden (show IsVar ((w.alloc (.cells #[.int .i64 key.k, .int .i64 key.n, .string key.t] 26)).alloc (.cells #[.int .i64 val.k, .int .i64 val.n, .string val.t] 26)) (w.heap.size + 1) val from new2t w _ _)
  have HK0 := hidden (show Keeps (fun _ => False) w ((w.alloc (.cells #[.int .i64 key.k, .int .i64 key.n, .string key.t] 26)).alloc (.cells #[.int .i64 val.k, .int .i64 val.n, .string val.t] 26)) from ((Keeps.refl _ w).alloc _).alloc _)
  have HIN := hidden h.inw
  have HBF := hidden (show F b from by obtain ⟨_, _, h⟩ := h; exact h.here)
  obtain ⟨ve, vs, hT⟩ := h
  obtain ⟨Ae, ce, rfl⟩ := hT.ents.form
  obtain ⟨As, cs, rfl⟩ := hT.slots.form
  have hFT := hidden (show putT t key val = ⟨t.E ++ [⟨key, val, t.ser + 1, false⟩], t.S.set (findT t key).1 ((t.E.length : Int) + 1), t.live + 1, if t.S.getD (findT t key).1 0 = (0 : Int) then t.used + 1 else t.used, t.ser + 1⟩ from rfl)
  rw [hf] at c1
  generalize (findT t key).1 = fi at *
  generalize hpt : putT t key val = pt at *
  obtain ⟨E1, S1, live, used1, ser⟩ := t
  simp only at *
  have TT0 := hidden (hT.none HK0.out)
  have hd1 : IntKind.i64.wrap (used1 + 1) = used1 + 1 := by rw [IntKind.wrap_i64]; omega
  have hd2 : IntKind.i64.wrap (4 * (used1 + 1)) = 4 * (used1 + 1) := by rw [IntKind.wrap_i64]; omega
  have hd3 : IntKind.i64.wrap (3 * (S1.length : Int)) = 3 * (S1.length : Int) := by rw [IntKind.wrap_i64]; omega
  have hd4 : (live == 1048576) = false := by rw [beq_eq_false_iff_ne]; omega
  have hd5 : ¬ (3 * (S1.length : Int) < 4 * (used1 + 1)) := by omega
  clear hT hf hs hpt
  unfold V.val at *
  refine post_gen fun R hR => ?_
  go_enter Try.func30, Try.ntmps30
  go_wp2_with fail
  refine (c1.out _ HK0.out).mono ?_
  rintro e wa ⟨rfl, hK⟩
  have HKa0 := hidden (HK0.out.trans hK (fun _ _ h => h))
  have HAk := hidden (show IsVar wa w.heap.size key from hK.heap HBK.out (fun h => h))
  have HAv := hidden (show IsVar wa (w.heap.size + 1) val from hK.heap HBV.out (fun h => h))
  have TA := hidden (TT0.out.none hK)
  have cf := hidden (fun (W : World) (hk : Keeps (fun _ => False) wa W) => c1.out W (HKa0.out.trans hk (fun _ _ h => h)))
  clear hK c1 TT0 HBK HBV HK0
  have b1 := blk_cell TA.out.blk 1
  have b2 := blk_cell TA.out.blk 2
  have b3 := blk_cell TA.out.blk 3
  simp only [List.getElem?_toArray, List.getElem?_cons_zero, List.getElem?_cons_succ] at b1 b2 b3
  obtain ⟨k0, k1, k2, -⟩ := HAk.out.cells
  have hkz := blk_lt HAk.out
  go_wp2_with fail
  go_quiet (fail)
  have TA2 := hidden (TA.out.none ((Keeps.refl _ wa).drewN nq))
  have HAk2 := hidden (show IsVar (wa.drewN nq) w.heap.size key from HAk.out)
  have HAv2 := hidden (show IsVar (wa.drewN nq) (w.heap.size + 1) val from HAv.out)
  have HKa := hidden ((HKa0.out.drewN nq).mono (T := F) (fun _ _ h => h.elim))
  have cf2 := hidden (fun (W : World) (hk : Keeps (fun _ => False) (wa.drewN nq) W) => cf.out W (((Keeps.refl _ wa).drewN nq).trans hk (fun _ _ h => h)))
  clear b1 b2 b3 k0 k1 k2 hkz TA HAk HAv cf HKa0
  generalize wa.drewN nq = wa at *
  have TA := TA2
  have HAk := HAk2
  have HAv := HAv2
  have cf := cf2
  clear TA2 HAk2 HAv2 cf2
  have b1 := blk_cell TA.out.blk 1
  have b2 := blk_cell TA.out.blk 2
  have b3 := blk_cell TA.out.blk 3
  simp only [List.getElem?_toArray, List.getElem?_cons_zero, List.getElem?_cons_succ] at b1 b2 b3
  obtain ⟨k0, k1, k2, -⟩ := HAk.out.cells
  have hkz := blk_lt HAk.out
  have HO1 := hidden (show ¬ F w.heap.size ∧ ¬ F (w.heap.size + 1) from ⟨fun h => by have := HIN.out _ h; omega, fun h => by have := HIN.out _ h; omega⟩)
  have HBW := hidden (show b < w.heap.size from HIN.out b HBF.out)
  have HFR := hidden (Fresh.refl F w)
  have HFF := hidden (show ∀ i : Nat, i < w.heap.size → F i → F i from fun _ _ h => h)
  go_wp2_with fail
  refine (cf.out _ (Keeps.refl _ _)).mono ?_
  rintro e wb ⟨rfl, hK⟩
  have TB := hidden (TA.out.none hK)
  have HBk := hidden (show IsVar wb w.heap.size key from hK.heap HAk.out (fun h => h))
  have HBv := hidden (show IsVar wb (w.heap.size + 1) val from hK.heap HAv.out (fun h => h))
  have HKb := hidden (HKa.out.trans hK (fun _ _ h => h.elim))
  clear hK cf TA HAk HAv HKa
  obtain ⟨s0, hs0⟩ : ∃ s0, S1[fi]? = some s0 := ⟨_, List.getElem?_eq_getElem hfi⟩
  have HS0 := hidden (show S1.getD fi 0 = s0 by rw [List.getD_eq_getElem?_getD, hs0]; rfl)
  obtain ⟨gs, rfl, hFgs, hgs, hc, hcf⟩ := slot_cell TB.out.slots hs0
  have b1 := blk_cell TB.out.blk 1
  have b3 := blk_cell TB.out.blk 3
  have b4 := blk_cell TB.out.blk 4
  have b3f := blk_frozen TB.out.blk 3
  have b4f := blk_frozen TB.out.blk 4
  simp only [List.getElem?_toArray, List.getElem?_cons_zero, List.getElem?_cons_succ] at b1 b3 b4
  have hbw := blk_lt TB.out.blk
  have hu1 : IntKind.i64.wrap (used1 + 1) = used1 + 1 := by rw [IntKind.wrap_i64]; omega
  have hr1 : IntKind.i64.wrap (ser + 1) = ser + 1 := by rw [IntKind.wrap_i64]; omega
  have hl1 : IntKind.i64.wrap (live + 1) = live + 1 := by rw [IntKind.wrap_i64]; omega
  by_cases hs00 : s0 = 0
  · subst hs00
    go_upto_region 15 with fail
    obtain ⟨T2, k2⟩ := tab_num (t := ⟨E1, S1, live, used1, ser⟩) TB.out (i := 3) (n := used1 + 1) (t' := ⟨E1, S1, live, used1 + 1, ser⟩) rfl rfl rfl
    obtain ⟨T3, k3⟩ := tab_num (t := ⟨E1, S1, live, used1 + 1, ser⟩) T2 (i := 4) (n := ser + 1) (t' := ⟨E1, S1, live, used1 + 1, ser + 1⟩) rfl rfl rfl
    have TC := hidden T3
    have KC := hidden (k2.trans k3 (fun _ _ h => h))
    have HU := hidden (show (if S1.getD fi 0 = (0 : Int) then used1 + 1 else used1) = used1 + 1 by rw [HS0.out]; rfl)
    clear T2 T3 k2 k3 b1 b3 b4 b3f b4f hc hcf
    generalize (wb.setCell ⟨b, 3, none⟩ (.int .i64 (used1 + 1))).setCell ⟨b, 4, none⟩ (.int .i64 (ser + 1)) = wc at *
    have HCk := hidden (show IsVar wc w.heap.size key from KC.out.heap HBk.out HO1.out.1)
    have HCv := hidden (show IsVar wc (w.heap.size + 1) val from KC.out.heap HBv.out HO1.out.2)
    have HKc := hidden (HKb.out.trans KC.out (fun i hi h => HFF.out i hi h))
    clear TB HBk HBv HKb KC hu1
    have b0 := blk_cell TC.out.blk 0
    have b0f := blk_frozen TC.out.blk 0
    have b4 := blk_cell TC.out.blk 4
    simp only [List.getElem?_toArray, List.getElem?_cons_zero, List.getElem?_cons_succ] at b0 b4
    have hbc := blk_lt TC.out.blk
    obtain ⟨k0, k1, k2, -⟩ := HCk.out.cells
    obtain ⟨v0, v1, v2, -⟩ := HCv.out.cells
    have hkz := blk_lt HCk.out
    have hvz := blk_lt HCv.out
    have HNE := hidden (TC.out.ents.ne TC.out.blk (by decide))
    have HOW := hidden (fun k (e : (Value.slice Ae E1.length ce).ownBlock = some k) => TC.out.ents.2 k e)
    have hbw0 := HBW.out
    have SK := hidden (show ∀ W', Keeps (fun k => (Value.slice Ae E1.length ce).ownBlock = some k) wc W' → (W'.cell? ⟨b, 4, none⟩ = some (.int .i64 (ser + 1)) ∧ W'.cell? ⟨w.heap.size, 0, none⟩ = some (.int .i64 key.k) ∧ W'.cell? ⟨w.heap.size, 1, none⟩ = some (.int .i64 key.n) ∧ W'.cell? ⟨w.heap.size, 2, none⟩ = some (.string key.t) ∧ W'.cell? ⟨w.heap.size + 1, 0, none⟩ = some (.int .i64 val.k) ∧ W'.cell? ⟨w.heap.size + 1, 1, none⟩ = some (.int .i64 val.n) ∧ W'.cell? ⟨w.heap.size + 1, 2, none⟩ = some (.string val.t)) from fun W' hk =>
      ⟨hk.cell b4 (fun e => HNE.out b e rfl), hk.cell k0 (fun e => HO1.out.1 (HOW.out _ e)), hk.cell k1 (fun e => HO1.out.1 (HOW.out _ e)), hk.cell k2 (fun e => HO1.out.1 (HOW.out _ e)), hk.cell v0 (fun e => HO1.out.2 (HOW.out _ e)), hk.cell v1 (fun e => HO1.out.2 (HOW.out _ e)), hk.cell v2 (fun e => HO1.out.2 (HOW.out _ e))⟩)
    refine wp_region_noPanic ?_
    refine wp_region_held_drew (S := (fun w' => w'.cell? ⟨b, 4, none⟩ = some (.int .i64 (ser + 1)) ∧ w'.cell? ⟨w.heap.size, 0, none⟩ = some (.int .i64 key.k) ∧ w'.cell? ⟨w.heap.size, 1, none⟩ = some (.int .i64 key.n) ∧ w'.cell? ⟨w.heap.size, 2, none⟩ = some (.string key.t) ∧ w'.cell? ⟨w.heap.size + 1, 0, none⟩ = some (.int .i64 val.k) ∧ w'.cell? ⟨w.heap.size + 1, 1, none⟩ = some (.int .i64 val.n) ∧ w'.cell? ⟨w.heap.size + 1, 2, none⟩ = some (.string val.t))) (by kernel_rfl) ?_ (fun hHeld => ?_)
    · ((try dsimp only); (first | exact ⟨b4, k0, k1, k2, v0, v1, v2⟩ | exact SK.out _ ((Keeps.refl _ wc).drewN _) | exact SK.out _ (((Keeps.refl _ wc).drewN _).alloc _) | exact SK.out _ KX.out | exact ⟨setcell_keep (SK.out _ KX.out).1 (by simp), setcell_keep (SK.out _ KX.out).2.1 (fun e => by simp at e <;> omega), setcell_keep (SK.out _ KX.out).2.2.1 (fun e => by simp at e <;> omega), setcell_keep (SK.out _ KX.out).2.2.2.1 (fun e => by simp at e <;> omega), setcell_keep (SK.out _ KX.out).2.2.2.2.1 (fun e => by simp at e <;> omega), setcell_keep (SK.out _ KX.out).2.2.2.2.2.1 (fun e => by simp at e <;> omega), setcell_keep (SK.out _ KX.out).2.2.2.2.2.2 (fun e => by simp at e <;> omega)⟩))
    refine wpAnyH_take (i := 0) (v := ?_) rfl (by kernel_rfl) (by kernel_rfl) (by kernel_rfl) (fun _ _ _ h => h) (Or.inl ⟨by rfl, ?_⟩) hHeld ?_
    rotate_left
    · (intro w' hSw; (try dsimp only at hSw); go_simp; (try with_reducible rfl))
    try simp only [Act.put, List.setIfInBounds_toArray, List.set_cons_zero, List.set_cons_succ]
    refine wpAnyH_take (i := 1) (v := ?_) rfl (by kernel_rfl) (by kernel_rfl) (by kernel_rfl) (fun _ _ _ h => h) (Or.inl ⟨by rfl, ?_⟩) hHeld ?_
    rotate_left
    · (intro w' hSw; (try dsimp only at hSw); go_simp; (try with_reducible rfl))
    try simp only [Act.put, List.setIfInBounds_toArray, List.set_cons_zero, List.set_cons_succ]
    refine wpAnyH_take (i := 2) (v := ?_) rfl (by kernel_rfl) (by kernel_rfl) (by kernel_rfl) (fun _ _ _ h => h) (Or.inl ⟨by rfl, ?_⟩) hHeld ?_
    rotate_left
    · (intro w' hSw; (try dsimp only at hSw); go_simp; (try with_reducible rfl))
    try simp only [Act.put, List.setIfInBounds_toArray, List.set_cons_zero, List.set_cons_succ]
    refine wpAnyH_take (i := 3) (v := ?_) rfl (by kernel_rfl) (by kernel_rfl) (by kernel_rfl) (fun _ _ _ h => h) (Or.inl ⟨by rfl, ?_⟩) hHeld ?_
    rotate_left
    · (intro w' hSw; (try dsimp only at hSw); go_simp; (try with_reducible rfl))
    try simp only [Act.put, List.setIfInBounds_toArray, List.set_cons_zero, List.set_cons_succ]
    refine wpAnyH_take (i := 5) (v := ?_) rfl (by kernel_rfl) (by kernel_rfl) (by kernel_rfl) (fun _ _ _ h => h) (Or.inl ⟨by rfl, ?_⟩) hHeld ?_
    rotate_left
    · (intro w' hSw; (try dsimp only at hSw); go_simp; (try with_reducible rfl))
    try simp only [Act.put, List.setIfInBounds_toArray, List.set_cons_zero, List.set_cons_succ]
    refine wpAnyH_take (i := 6) (v := ?_) rfl (by kernel_rfl) (by kernel_rfl) (by kernel_rfl) (fun _ _ _ h => h) (Or.inl ⟨by rfl, ?_⟩) hHeld ?_
    rotate_left
    · (intro w' hSw; (try dsimp only at hSw); go_simp; (try with_reducible rfl))
    try simp only [Act.put, List.setIfInBounds_toArray, List.set_cons_zero, List.set_cons_succ]
    refine wpAnyH_take (i := 7) (v := ?_) rfl (by kernel_rfl) (by kernel_rfl) (by kernel_rfl) (fun _ _ _ h => h) (Or.inl ⟨by rfl, ?_⟩) hHeld ?_
    rotate_left
    · (intro w' hSw; (try dsimp only at hSw); go_simp; (try with_reducible rfl))
    try simp only [Act.put, List.setIfInBounds_toArray, List.set_cons_zero, List.set_cons_succ]
    refine wpAnyH_take (i := 8) (v := ?_) rfl (by kernel_rfl) (by kernel_rfl) (by kernel_rfl) (fun _ _ _ h => h) (Or.inl ⟨by rfl, ?_⟩) hHeld ?_
    rotate_left
    · (intro w' hSw; (try dsimp only at hSw); go_simp; (try with_reducible rfl))
    try simp only [Act.put, List.setIfInBounds_toArray, List.set_cons_zero, List.set_cons_succ]
    refine wpAnyH_take (i := 9) (v := ?_) rfl (by kernel_rfl) (by kernel_rfl) (by kernel_rfl) (fun _ _ _ h => h) (Or.inl ⟨by rfl, ?_⟩) hHeld ?_
    rotate_left
    · (intro w' hSw; (try dsimp only at hSw); go_simp; (try with_reducible rfl))
    try simp only [Act.put, List.setIfInBounds_toArray, List.set_cons_zero, List.set_cons_succ]
    refine wpAnyH_take (i := 10) (v := ?_) rfl (by kernel_rfl) (by kernel_rfl) (by kernel_rfl) (fun _ _ _ h => h) (Or.inl ⟨by rfl, ?_⟩) hHeld ?_
    rotate_left
    · (intro w' hSw; (try dsimp only at hSw); go_simp; (try with_reducible rfl))
    try simp only [Act.put, List.setIfInBounds_toArray, List.set_cons_zero, List.set_cons_succ]
    refine wpAnyH_take (i := 11) (v := ?_) rfl (by kernel_rfl) (by kernel_rfl) (by kernel_rfl) (fun _ _ _ h => h) (Or.inl ⟨by rfl, ?_⟩) hHeld ?_
    rotate_left
    · (intro w' hSw; (try dsimp only at hSw); go_simp; (try with_reducible rfl))
    try simp only [Act.put, List.setIfInBounds_toArray, List.set_cons_zero, List.set_cons_succ]
    refine wpAnyH_ready (rs := [4, 12]) (by kernel_rfl) (by simp) ?_
    refine (AllReadyH.cons rfl (fun K hK => ?_) (AllReadyH.cons rfl (fun K hK => ?_) AllReadyH.nil))
    go_simp
    refine hK.out _ _ ?_ (fun hH2 => ?_)
    · ((try dsimp only); (first | exact ⟨b4, k0, k1, k2, v0, v1, v2⟩ | exact SK.out _ ((Keeps.refl _ wc).drewN _) | exact SK.out _ (((Keeps.refl _ wc).drewN _).alloc _) | exact SK.out _ KX.out | exact ⟨setcell_keep (SK.out _ KX.out).1 (by simp), setcell_keep (SK.out _ KX.out).2.1 (fun e => by simp at e <;> omega), setcell_keep (SK.out _ KX.out).2.2.1 (fun e => by simp at e <;> omega), setcell_keep (SK.out _ KX.out).2.2.2.1 (fun e => by simp at e <;> omega), setcell_keep (SK.out _ KX.out).2.2.2.2.1 (fun e => by simp at e <;> omega), setcell_keep (SK.out _ KX.out).2.2.2.2.2.1 (fun e => by simp at e <;> omega), setcell_keep (SK.out _ KX.out).2.2.2.2.2.2 (fun e => by simp at e <;> omega)⟩))
    clear hK K hHeld
    have hHeld := hH2
    clear hH2
    try simp only [Act.put, List.setIfInBounds_toArray, List.set_cons_zero, List.set_cons_succ]
    refine wpAnyH_ready (rs := [12]) (by kernel_rfl) (by simp) ?_
    refine AllReadyH.cons rfl (fun K hK => ?_) AllReadyH.nil
    go_simp
    refine hK.out _ _ ?_ (fun hH2 => ?_)
    · ((try dsimp only); (first | exact ⟨b4, k0, k1, k2, v0, v1, v2⟩ | exact SK.out _ ((Keeps.refl _ wc).drewN _) | exact SK.out _ (((Keeps.refl _ wc).drewN _).alloc _) | exact SK.out _ KX.out | exact ⟨setcell_keep (SK.out _ KX.out).1 (by simp), setcell_keep (SK.out _ KX.out).2.1 (fun e => by simp at e <;> omega), setcell_keep (SK.out _ KX.out).2.2.1 (fun e => by simp at e <;> omega), setcell_keep (SK.out _ KX.out).2.2.2.1 (fun e => by simp at e <;> omega), setcell_keep (SK.out _ KX.out).2.2.2.2.1 (fun e => by simp at e <;> omega), setcell_keep (SK.out _ KX.out).2.2.2.2.2.1 (fun e => by simp at e <;> omega), setcell_keep (SK.out _ KX.out).2.2.2.2.2.2 (fun e => by simp at e <;> omega)⟩))
    clear hK K hHeld
    have hHeld := hH2
    clear hH2
    try simp only [Act.put, List.setIfInBounds_toArray, List.set_cons_zero, List.set_cons_succ]
    refine wpAnyH_ready (rs := [13]) (by kernel_rfl) (by simp) ?_
    refine AllReadyH.cons rfl (fun K hK => ?_) AllReadyH.nil
    (first | (refine app_step rfl F _ _ _ _ _ _ 8 80 rfl Try.underlying108 info_ent rfl (by decide) (.slice Ae E1.length ce) E1.length (flatE E1) rfl (TC.out.ents.alloc _).drew _ rfl 1 _ (ent_src wc ⟨key, val, ser + 1, false⟩ (by first | rfl | simp)) (by omega) (by omega) ?_; intro A6 c6 w6 hR6 hK6; have HR6 := hidden hR6; have HK6 := hidden (Keeps.undrewn hK6); have KX := hidden ((((Keeps.refl (fun k => (Value.slice Ae E1.length ce).ownBlock = some k) wc).alloc _).drew).trans hK6 (fun _ _ h => h)); have g0 := KX.out.cell b0 (fun e => HNE.out b e rfl); have g0d := KX.out.heap TC.out.blk (fun e => HNE.out b e rfl); have g0f := blk_frozen g0d 0; clear hR6 hK6))
    refine hK.out _ _ ?_ (fun hH2 => ?_)
    · ((try dsimp only); (first | exact ⟨b4, k0, k1, k2, v0, v1, v2⟩ | exact SK.out _ ((Keeps.refl _ wc).drewN _) | exact SK.out _ (((Keeps.refl _ wc).drewN _).alloc _) | exact SK.out _ KX.out | exact ⟨setcell_keep (SK.out _ KX.out).1 (by simp), setcell_keep (SK.out _ KX.out).2.1 (fun e => by simp at e <;> omega), setcell_keep (SK.out _ KX.out).2.2.1 (fun e => by simp at e <;> omega), setcell_keep (SK.out _ KX.out).2.2.2.1 (fun e => by simp at e <;> omega), setcell_keep (SK.out _ KX.out).2.2.2.2.1 (fun e => by simp at e <;> omega), setcell_keep (SK.out _ KX.out).2.2.2.2.2.1 (fun e => by simp at e <;> omega), setcell_keep (SK.out _ KX.out).2.2.2.2.2.2 (fun e => by simp at e <;> omega)⟩))
    clear hK K hHeld
    have hHeld := hH2
    clear hH2
    try simp only [Act.put, List.setIfInBounds_toArray, List.set_cons_zero, List.set_cons_succ]
    refine wpAnyH_take (i := 14) (v := ?_) rfl (by kernel_rfl) (by kernel_rfl) (by kernel_rfl) (fun _ _ _ h => h) (Or.inl ⟨by rfl, ?_⟩) hHeld ?_
    rotate_left
    · (intro w' hSw; (try dsimp only at hSw); go_simp; (try with_reducible rfl))
    try simp only [Act.put, List.setIfInBounds_toArray, List.set_cons_zero, List.set_cons_succ]
    refine wpAnyH_take (i := 15) (v := ?_) rfl (by kernel_rfl) (by kernel_rfl) (by kernel_rfl) (fun _ _ _ h => h) (Or.inl ⟨by rfl, ?_⟩) hHeld ?_
    rotate_left
    · (intro w' hSw; (try dsimp only at hSw); go_simp; (try with_reducible rfl))
    try simp only [Act.put, List.setIfInBounds_toArray, List.set_cons_zero, List.set_cons_succ]
    refine wpAnyH_ready (rs := [16]) (by kernel_rfl) (by simp) ?_
    refine AllReadyH.cons rfl (fun K hK => ?_) AllReadyH.nil
    go_simp
    refine hK.out _ _ ?_ (fun hH2 => ?_)
    · ((try dsimp only); (first | exact ⟨b4, k0, k1, k2, v0, v1, v2⟩ | exact SK.out _ ((Keeps.refl _ wc).drewN _) | exact SK.out _ (((Keeps.refl _ wc).drewN _).alloc _) | exact SK.out _ KX.out | exact ⟨setcell_keep (SK.out _ KX.out).1 (by simp), setcell_keep (SK.out _ KX.out).2.1 (fun e => by simp at e <;> omega), setcell_keep (SK.out _ KX.out).2.2.1 (fun e => by simp at e <;> omega), setcell_keep (SK.out _ KX.out).2.2.2.1 (fun e => by simp at e <;> omega), setcell_keep (SK.out _ KX.out).2.2.2.2.1 (fun e => by simp at e <;> omega), setcell_keep (SK.out _ KX.out).2.2.2.2.2.1 (fun e => by simp at e <;> omega), setcell_keep (SK.out _ KX.out).2.2.2.2.2.2 (fun e => by simp at e <;> omega)⟩))
    clear hK K hHeld
    have hHeld := hH2
    clear hH2
    try simp only [Act.put, List.setIfInBounds_toArray, List.set_cons_zero, List.set_cons_succ]
    refine wpAnyH_done (by kernel_rfl) ?_ _
    refine NoPanic.normal ?_
    rotate_left
    go_simp
    refine hK.out _ _ ?_ (fun hH2 => ?_)
    · ((try dsimp only); (first | exact ⟨b4, k0, k1, k2, v0, v1, v2⟩ | exact SK.out _ ((Keeps.refl _ wc).drewN _) | exact SK.out _ (((Keeps.refl _ wc).drewN _).alloc _) | exact SK.out _ KX.out | exact ⟨setcell_keep (SK.out _ KX.out).1 (by simp), setcell_keep (SK.out _ KX.out).2.1 (fun e => by simp at e <;> omega), setcell_keep (SK.out _ KX.out).2.2.1 (fun e => by simp at e <;> omega), setcell_keep (SK.out _ KX.out).2.2.2.1 (fun e => by simp at e <;> omega), setcell_keep (SK.out _ KX.out).2.2.2.2.1 (fun e => by simp at e <;> omega), setcell_keep (SK.out _ KX.out).2.2.2.2.2.1 (fun e => by simp at e <;> omega), setcell_keep (SK.out _ KX.out).2.2.2.2.2.2 (fun e => by simp at e <;> omega)⟩))
    clear hK K hHeld
    have hHeld := hH2
    clear hH2
    try simp only [Act.put, List.setIfInBounds_toArray, List.set_cons_zero, List.set_cons_succ]
    refine wpAnyH_ready (rs := [4]) (by kernel_rfl) (by simp) ?_
    refine AllReadyH.cons rfl (fun K hK => ?_) AllReadyH.nil
    go_simp
    refine hK.out _ _ ?_ (fun hH2 => ?_)
    · ((try dsimp only); (first | exact ⟨b4, k0, k1, k2, v0, v1, v2⟩ | exact SK.out _ ((Keeps.refl _ wc).drewN _) | exact SK.out _ (((Keeps.refl _ wc).drewN _).alloc _) | exact SK.out _ KX.out | exact ⟨setcell_keep (SK.out _ KX.out).1 (by simp), setcell_keep (SK.out _ KX.out).2.1 (fun e => by simp at e <;> omega), setcell_keep (SK.out _ KX.out).2.2.1 (fun e => by simp at e <;> omega), setcell_keep (SK.out _ KX.out).2.2.2.1 (fun e => by simp at e <;> omega), setcell_keep (SK.out _ KX.out).2.2.2.2.1 (fun e => by simp at e <;> omega), setcell_keep (SK.out _ KX.out).2.2.2.2.2.1 (fun e => by simp at e <;> omega), setcell_keep (SK.out _ KX.out).2.2.2.2.2.2 (fun e => by simp at e <;> omega)⟩))
    clear hK K hHeld
    have hHeld := hH2
    clear hH2
    try simp only [Act.put, List.setIfInBounds_toArray, List.set_cons_zero, List.set_cons_succ]
    refine wpAnyH_ready (rs := [13]) (by kernel_rfl) (by simp) ?_
    refine AllReadyH.cons rfl (fun K hK => ?_) AllReadyH.nil
    (first | (refine app_step rfl F _ _ _ _ _ _ 8 80 rfl Try.underlying108 info_ent rfl (by decide) (.slice Ae E1.length ce) E1.length (flatE E1) rfl (TC.out.ents.alloc _).drew _ rfl 1 _ (ent_src wc ⟨key, val, ser + 1, false⟩ (by first | rfl | simp)) (by omega) (by omega) ?_; intro A6 c6 w6 hR6 hK6; have HR6 := hidden hR6; have HK6 := hidden (Keeps.undrewn hK6); have KX := hidden ((((Keeps.refl (fun k => (Value.slice Ae E1.length ce).ownBlock = some k) wc).alloc _).drew).trans hK6 (fun _ _ h => h)); have g0 := KX.out.cell b0 (fun e => HNE.out b e rfl); have g0d := KX.out.heap TC.out.blk (fun e => HNE.out b e rfl); have g0f := blk_frozen g0d 0; clear hR6 hK6))
    refine hK.out _ _ ?_ (fun hH2 => ?_)
    · ((try dsimp only); (first | exact ⟨b4, k0, k1, k2, v0, v1, v2⟩ | exact SK.out _ ((Keeps.refl _ wc).drewN _) | exact SK.out _ (((Keeps.refl _ wc).drewN _).alloc _) | exact SK.out _ KX.out | exact ⟨setcell_keep (SK.out _ KX.out).1 (by simp), setcell_keep (SK.out _ KX.out).2.1 (fun e => by simp at e <;> omega), setcell_keep (SK.out _ KX.out).2.2.1 (fun e => by simp at e <;> omega), setcell_keep (SK.out _ KX.out).2.2.2.1 (fun e => by simp at e <;> omega), setcell_keep (SK.out _ KX.out).2.2.2.2.1 (fun e => by simp at e <;> omega), setcell_keep (SK.out _ KX.out).2.2.2.2.2.1 (fun e => by simp at e <;> omega), setcell_keep (SK.out _ KX.out).2.2.2.2.2.2 (fun e => by simp at e <;> omega)⟩))
    clear hK K hHeld
    have hHeld := hH2
    clear hH2
    try simp only [Act.put, List.setIfInBounds_toArray, List.set_cons_zero, List.set_cons_succ]
    refine wpAnyH_take (i := 14) (v := ?_) rfl (by kernel_rfl) (by kernel_rfl) (by kernel_rfl) (fun _ _ _ h => h) (Or.inl ⟨by rfl, ?_⟩) hHeld ?_
    rotate_left
    · (intro w' hSw; (try dsimp only at hSw); go_simp; (try with_reducible rfl))
    try simp only [Act.put, List.setIfInBounds_toArray, List.set_cons_zero, List.set_cons_succ]
    refine wpAnyH_take (i := 15) (v := ?_) rfl (by kernel_rfl) (by kernel_rfl) (by kernel_rfl) (fun _ _ _ h => h) (Or.inl ⟨by rfl, ?_⟩) hHeld ?_
    rotate_left
    · (intro w' hSw; (try dsimp only at hSw); go_simp; (try with_reducible rfl))
    try simp only [Act.put, List.setIfInBounds_toArray, List.set_cons_zero, List.set_cons_succ]
    refine wpAnyH_ready (rs := [16]) (by kernel_rfl) (by simp) ?_
    refine AllReadyH.cons rfl (fun K hK => ?_) AllReadyH.nil
    go_simp
    refine hK.out _ _ ?_ (fun hH2 => ?_)
    · ((try dsimp only); (first | exact ⟨b4, k0, k1, k2, v0, v1, v2⟩ | exact SK.out _ ((Keeps.refl _ wc).drewN _) | exact SK.out _ (((Keeps.refl _ wc).drewN _).alloc _) | exact SK.out _ KX.out | exact ⟨setcell_keep (SK.out _ KX.out).1 (by simp), setcell_keep (SK.out _ KX.out).2.1 (fun e => by simp at e <;> omega), setcell_keep (SK.out _ KX.out).2.2.1 (fun e => by simp at e <;> omega), setcell_keep (SK.out _ KX.out).2.2.2.1 (fun e => by simp at e <;> omega), setcell_keep (SK.out _ KX.out).2.2.2.2.1 (fun e => by simp at e <;> omega), setcell_keep (SK.out _ KX.out).2.2.2.2.2.1 (fun e => by simp at e <;> omega), setcell_keep (SK.out _ KX.out).2.2.2.2.2.2 (fun e => by simp at e <;> omega)⟩))
    clear hK K hHeld
    have hHeld := hH2
    clear hH2
    try simp only [Act.put, List.setIfInBounds_toArray, List.set_cons_zero, List.set_cons_succ]
    refine wpAnyH_done (by kernel_rfl) ?_ _
    refine NoPanic.normal ?_
    rotate_left
    all_goals
      obtain ⟨F2, T5, k5, f5⟩ := tab_grew (t := ⟨E1, S1, live, used1 + 1, ser + 1⟩) (e := ⟨key, val, ser + 1, false⟩) TC.out rfl HR6.out HK6.out
      have TD := hidden T5
      have HKd := hidden (HKc.out.trans k5 (fun i hi h => HFF.out i hi h))
      have HFd := hidden f5
      have hwc := HKc.out.size
      clear T5 k5 f5 HR6 HK6 KX SK g0 g0d g0f b0 b0f b4 k0 k1 k2 v0 v1 v2 hkz hvz hbc
      go_upto_region 16 with fail
      generalize w6.setCell ⟨b, 0, none⟩ (.slice A6 (E1.length + 1) c6) = wd at *
      have b0 := blk_cell TD.out.blk 0
      have b1 := blk_cell TD.out.blk 1
      have b2 := blk_cell TD.out.blk 2
      have b2f := blk_frozen TD.out.blk 2
      simp only [List.getElem?_toArray, List.getElem?_cons_zero, List.getElem?_cons_succ] at b0 b1 b2
      have hbd := blk_lt TD.out.blk
      obtain ⟨g', e', -, hgsd, hc, hcf⟩ := slot_cell TD.out.slots hs0
      simp at e'
      subst e'
      have n4 : gs ≠ b := TD.out.slots.ne TD.out.blk (by decide) gs rfl
      go_region
      go_wp2_with fail
      obtain ⟨T7, k7⟩ := tab_slot (t := ⟨E1 ++ [⟨key, val, ser + 1, false⟩], S1, live, used1 + 1, ser + 1⟩) TD.out fi ((E1.length : Int) + 1)
      obtain ⟨T8, k8⟩ := tab_num (t := ⟨E1 ++ [⟨key, val, ser + 1, false⟩], S1.set fi ((E1.length : Int) + 1), live, used1 + 1, ser + 1⟩) T7 (i := 2) (n := live + 1) (t' := ⟨E1 ++ [⟨key, val, ser + 1, false⟩], S1.set fi ((E1.length : Int) + 1), live + 1, used1 + 1, ser + 1⟩) rfl rfl rfl
      refine hR.out _ _ ⟨F2, rfl, ?_, ?_, ?_⟩
      · rw [hFT.out, HU.out]
        exact ⟨_, _, T8.none ((Keeps.refl _ _).drewN 1)⟩
      · exact (HKd.out.trans (k7.trans k8 (fun _ _ h => h)) (fun i hi h => (HFd.out i h).elim (fun h => HFF.out i hi h) (fun h => by omega))).drew
      · exact fun k hk => (HFd.out k hk).elim (fun h => HFR.out k h) (fun h => .inr (by omega))
  · go_upto_region 15 with fail
    obtain ⟨T3, k3⟩ := tab_num (t := ⟨E1, S1, live, used1, ser⟩) TB.out (i := 4) (n := ser + 1) (t' := ⟨E1, S1, live, used1, ser + 1⟩) rfl rfl rfl
    have TC := hidden T3
    have KC := hidden k3
    have HU := hidden (show (if S1.getD fi 0 = (0 : Int) then used1 + 1 else used1) = used1 by rw [HS0.out, if_neg hs00])
    clear T3 k3 b1 b3 b4 b3f b4f hc hcf
    generalize wb.setCell ⟨b, 4, none⟩ (.int .i64 (ser + 1)) = wc at *
    have HCk := hidden (show IsVar wc w.heap.size key from KC.out.heap HBk.out HO1.out.1)
    have HCv := hidden (show IsVar wc (w.heap.size + 1) val from KC.out.heap HBv.out HO1.out.2)
    have HKc := hidden (HKb.out.trans KC.out (fun i hi h => HFF.out i hi h))
    clear TB HBk HBv HKb KC hu1
    have b0 := blk_cell TC.out.blk 0
    have b0f := blk_frozen TC.out.blk 0
    have b4 := blk_cell TC.out.blk 4
    simp only [List.getElem?_toArray, List.getElem?_cons_zero, List.getElem?_cons_succ] at b0 b4
    have hbc := blk_lt TC.out.blk
    obtain ⟨k0, k1, k2, -⟩ := HCk.out.cells
    obtain ⟨v0, v1, v2, -⟩ := HCv.out.cells
    have hkz := blk_lt HCk.out
    have hvz := blk_lt HCv.out
    have HNE := hidden (TC.out.ents.ne TC.out.blk (by decide))
    have HOW := hidden (fun k (e : (Value.slice Ae E1.length ce).ownBlock = some k) => TC.out.ents.2 k e)
    have hbw0 := HBW.out
    have SK := hidden (show ∀ W', Keeps (fun k => (Value.slice Ae E1.length ce).ownBlock = some k) wc W' → (W'.cell? ⟨b, 4, none⟩ = some (.int .i64 (ser + 1)) ∧ W'.cell? ⟨w.heap.size, 0, none⟩ = some (.int .i64 key.k) ∧ W'.cell? ⟨w.heap.size, 1, none⟩ = some (.int .i64 key.n) ∧ W'.cell? ⟨w.heap.size, 2, none⟩ = some (.string key.t) ∧ W'.cell? ⟨w.heap.size + 1, 0, none⟩ = some (.int .i64 val.k) ∧ W'.cell? ⟨w.heap.size + 1, 1, none⟩ = some (.int .i64 val.n) ∧ W'.cell? ⟨w.heap.size + 1, 2, none⟩ = some (.string val.t)) from fun W' hk =>
      ⟨hk.cell b4 (fun e => HNE.out b e rfl), hk.cell k0 (fun e => HO1.out.1 (HOW.out _ e)), hk.cell k1 (fun e => HO1.out.1 (HOW.out _ e)), hk.cell k2 (fun e => HO1.out.1 (HOW.out _ e)), hk.cell v0 (fun e => HO1.out.2 (HOW.out _ e)), hk.cell v1 (fun e => HO1.out.2 (HOW.out _ e)), hk.cell v2 (fun e => HO1.out.2 (HOW.out _ e))⟩)
    refine wp_region_noPanic ?_
    refine wp_region_held_drew (S := (fun w' => w'.cell? ⟨b, 4, none⟩ = some (.int .i64 (ser + 1)) ∧ w'.cell? ⟨w.heap.size, 0, none⟩ = some (.int .i64 key.k) ∧ w'.cell? ⟨w.heap.size, 1, none⟩ = some (.int .i64 key.n) ∧ w'.cell? ⟨w.heap.size, 2, none⟩ = some (.string key.t) ∧ w'.cell? ⟨w.heap.size + 1, 0, none⟩ = some (.int .i64 val.k) ∧ w'.cell? ⟨w.heap.size + 1, 1, none⟩ = some (.int .i64 val.n) ∧ w'.cell? ⟨w.heap.size + 1, 2, none⟩ = some (.string val.t))) (by kernel_rfl) ?_ (fun hHeld => ?_)
    · ((try dsimp only); (first | exact ⟨b4, k0, k1, k2, v0, v1, v2⟩ | exact SK.out _ ((Keeps.refl _ wc).drewN _) | exact SK.out _ (((Keeps.refl _ wc).drewN _).alloc _) | exact SK.out _ KX.out | exact ⟨setcell_keep (SK.out _ KX.out).1 (by simp), setcell_keep (SK.out _ KX.out).2.1 (fun e => by simp at e <;> omega), setcell_keep (SK.out _ KX.out).2.2.1 (fun e => by simp at e <;> omega), setcell_keep (SK.out _ KX.out).2.2.2.1 (fun e => by simp at e <;> omega), setcell_keep (SK.out _ KX.out).2.2.2.2.1 (fun e => by simp at e <;> omega), setcell_keep (SK.out _ KX.out).2.2.2.2.2.1 (fun e => by simp at e <;> omega), setcell_keep (SK.out _ KX.out).2.2.2.2.2.2 (fun e => by simp at e <;> omega)⟩))
    refine wpAnyH_take (i := 0) (v := ?_) rfl (by kernel_rfl) (by kernel_rfl) (by kernel_rfl) (fun _ _ _ h => h) (Or.inl ⟨by rfl, ?_⟩) hHeld ?_
    rotate_left
    · (intro w' hSw; (try dsimp only at hSw); go_simp; (try with_reducible rfl))
    try simp only [Act.put, List.setIfInBounds_toArray, List.set_cons_zero, List.set_cons_succ]
    refine wpAnyH_take (i := 1) (v := ?_) rfl (by kernel_rfl) (by kernel_rfl) (by kernel_rfl) (fun _ _ _ h => h) (Or.inl ⟨by rfl, ?_⟩) hHeld ?_
    rotate_left
    · (intro w' hSw; (try dsimp only at hSw); go_simp; (try with_reducible rfl))
    try simp only [Act.put, List.setIfInBounds_toArray, List.set_cons_zero, List.set_cons_succ]
    refine wpAnyH_take (i := 2) (v := ?_) rfl (by kernel_rfl) (by kernel_rfl) (by kernel_rfl) (fun _ _ _ h => h) (Or.inl ⟨by rfl, ?_⟩) hHeld ?_
    rotate_left
    · (intro w' hSw; (try dsimp only at hSw); go_simp; (try with_reducible rfl))
    try simp only [Act.put, List.setIfInBounds_toArray, List.set_cons_zero, List.set_cons_succ]
    refine wpAnyH_take (i := 3) (v := ?_) rfl (by kernel_rfl) (by kernel_rfl) (by kernel_rfl) (fun _ _ _ h => h) (Or.inl ⟨by rfl, ?_⟩) hHeld ?_
    rotate_left
    · (intro w' hSw; (try dsimp only at hSw); go_simp; (try with_reducible rfl))
    try simp only [Act.put, List.setIfInBounds_toArray, List.set_cons_zero, List.set_cons_succ]
    refine wpAnyH_take (i := 5) (v := ?_) rfl (by kernel_rfl) (by kernel_rfl) (by kernel_rfl) (fun _ _ _ h => h) (Or.inl ⟨by rfl, ?_⟩) hHeld ?_
    rotate_left
    · (intro w' hSw; (try dsimp only at hSw); go_simp; (try with_reducible rfl))
    try simp only [Act.put, List.setIfInBounds_toArray, List.set_cons_zero, List.set_cons_succ]
    refine wpAnyH_take (i := 6) (v := ?_) rfl (by kernel_rfl) (by kernel_rfl) (by kernel_rfl) (fun _ _ _ h => h) (Or.inl ⟨by rfl, ?_⟩) hHeld ?_
    rotate_left
    · (intro w' hSw; (try dsimp only at hSw); go_simp; (try with_reducible rfl))
    try simp only [Act.put, List.setIfInBounds_toArray, List.set_cons_zero, List.set_cons_succ]
    refine wpAnyH_take (i := 7) (v := ?_) rfl (by kernel_rfl) (by kernel_rfl) (by kernel_rfl) (fun _ _ _ h => h) (Or.inl ⟨by rfl, ?_⟩) hHeld ?_
    rotate_left
    · (intro w' hSw; (try dsimp only at hSw); go_simp; (try with_reducible rfl))
    try simp only [Act.put, List.setIfInBounds_toArray, List.set_cons_zero, List.set_cons_succ]
    refine wpAnyH_take (i := 8) (v := ?_) rfl (by kernel_rfl) (by kernel_rfl) (by kernel_rfl) (fun _ _ _ h => h) (Or.inl ⟨by rfl, ?_⟩) hHeld ?_
    rotate_left
    · (intro w' hSw; (try dsimp only at hSw); go_simp; (try with_reducible rfl))
    try simp only [Act.put, List.setIfInBounds_toArray, List.set_cons_zero, List.set_cons_succ]
    refine wpAnyH_take (i := 9) (v := ?_) rfl (by kernel_rfl) (by kernel_rfl) (by kernel_rfl) (fun _ _ _ h => h) (Or.inl ⟨by rfl, ?_⟩) hHeld ?_
    rotate_left
    · (intro w' hSw; (try dsimp only at hSw); go_simp; (try with_reducible rfl))
    try simp only [Act.put, List.setIfInBounds_toArray, List.set_cons_zero, List.set_cons_succ]
    refine wpAnyH_take (i := 10) (v := ?_) rfl (by kernel_rfl) (by kernel_rfl) (by kernel_rfl) (fun _ _ _ h => h) (Or.inl ⟨by rfl, ?_⟩) hHeld ?_
    rotate_left
    · (intro w' hSw; (try dsimp only at hSw); go_simp; (try with_reducible rfl))
    try simp only [Act.put, List.setIfInBounds_toArray, List.set_cons_zero, List.set_cons_succ]
    refine wpAnyH_take (i := 11) (v := ?_) rfl (by kernel_rfl) (by kernel_rfl) (by kernel_rfl) (fun _ _ _ h => h) (Or.inl ⟨by rfl, ?_⟩) hHeld ?_
    rotate_left
    · (intro w' hSw; (try dsimp only at hSw); go_simp; (try with_reducible rfl))
    try simp only [Act.put, List.setIfInBounds_toArray, List.set_cons_zero, List.set_cons_succ]
    refine wpAnyH_ready (rs := [4, 12]) (by kernel_rfl) (by simp) ?_
    refine (AllReadyH.cons rfl (fun K hK => ?_) (AllReadyH.cons rfl (fun K hK => ?_) AllReadyH.nil))
    go_simp
    refine hK.out _ _ ?_ (fun hH2 => ?_)
    · ((try dsimp only); (first | exact ⟨b4, k0, k1, k2, v0, v1, v2⟩ | exact SK.out _ ((Keeps.refl _ wc).drewN _) | exact SK.out _ (((Keeps.refl _ wc).drewN _).alloc _) | exact SK.out _ KX.out | exact ⟨setcell_keep (SK.out _ KX.out).1 (by simp), setcell_keep (SK.out _ KX.out).2.1 (fun e => by simp at e <;> omega), setcell_keep (SK.out _ KX.out).2.2.1 (fun e => by simp at e <;> omega), setcell_keep (SK.out _ KX.out).2.2.2.1 (fun e => by simp at e <;> omega), setcell_keep (SK.out _ KX.out).2.2.2.2.1 (fun e => by simp at e <;> omega), setcell_keep (SK.out _ KX.out).2.2.2.2.2.1 (fun e => by simp at e <;> omega), setcell_keep (SK.out _ KX.out).2.2.2.2.2.2 (fun e => by simp at e <;> omega)⟩))
    clear hK K hHeld
    have hHeld := hH2
    clear hH2
    try simp only [Act.put, List.setIfInBounds_toArray, List.set_cons_zero, List.set_cons_succ]
    refine wpAnyH_ready (rs := [12]) (by kernel_rfl) (by simp) ?_
    refine AllReadyH.cons rfl (fun K hK => ?_) AllReadyH.nil
    go_simp
    refine hK.out _ _ ?_ (fun hH2 => ?_)
    · ((try dsimp only); (first | exact ⟨b4, k0, k1, k2, v0, v1, v2⟩ | exact SK.out _ ((Keeps.refl _ wc).drewN _) | exact SK.out _ (((Keeps.refl _ wc).drewN _).alloc _) | exact SK.out _ KX.out | exact ⟨setcell_keep (SK.out _ KX.out).1 (by simp), setcell_keep (SK.out _ KX.out).2.1 (fun e => by simp at e <;> omega), setcell_keep (SK.out _ KX.out).2.2.1 (fun e => by simp at e <;> omega), setcell_keep (SK.out _ KX.out).2.2.2.1 (fun e => by simp at e <;> omega), setcell_keep (SK.out _ KX.out).2.2.2.2.1 (fun e => by simp at e <;> omega), setcell_keep (SK.out _ KX.out).2.2.2.2.2.1 (fun e => by simp at e <;> omega), setcell_keep (SK.out _ KX.out).2.2.2.2.2.2 (fun e => by simp at e <;> omega)⟩))
    clear hK K hHeld
    have hHeld := hH2
    clear hH2
    try simp only [Act.put, List.setIfInBounds_toArray, List.set_cons_zero, List.set_cons_succ]
    refine wpAnyH_ready (rs := [13]) (by kernel_rfl) (by simp) ?_
    refine AllReadyH.cons rfl (fun K hK => ?_) AllReadyH.nil
    (first | (refine app_step rfl F _ _ _ _ _ _ 8 80 rfl Try.underlying108 info_ent rfl (by decide) (.slice Ae E1.length ce) E1.length (flatE E1) rfl (TC.out.ents.alloc _).drew _ rfl 1 _ (ent_src wc ⟨key, val, ser + 1, false⟩ (by first | rfl | simp)) (by omega) (by omega) ?_; intro A6 c6 w6 hR6 hK6; have HR6 := hidden hR6; have HK6 := hidden (Keeps.undrewn hK6); have KX := hidden ((((Keeps.refl (fun k => (Value.slice Ae E1.length ce).ownBlock = some k) wc).alloc _).drew).trans hK6 (fun _ _ h => h)); have g0 := KX.out.cell b0 (fun e => HNE.out b e rfl); have g0d := KX.out.heap TC.out.blk (fun e => HNE.out b e rfl); have g0f := blk_frozen g0d 0; clear hR6 hK6))
    refine hK.out _ _ ?_ (fun hH2 => ?_)
    · ((try dsimp only); (first | exact ⟨b4, k0, k1, k2, v0, v1, v2⟩ | exact SK.out _ ((Keeps.refl _ wc).drewN _) | exact SK.out _ (((Keeps.refl _ wc).drewN _).alloc _) | exact SK.out _ KX.out | exact ⟨setcell_keep (SK.out _ KX.out).1 (by simp), setcell_keep (SK.out _ KX.out).2.1 (fun e => by simp at e <;> omega), setcell_keep (SK.out _ KX.out).2.2.1 (fun e => by simp at e <;> omega), setcell_keep (SK.out _ KX.out).2.2.2.1 (fun e => by simp at e <;> omega), setcell_keep (SK.out _ KX.out).2.2.2.2.1 (fun e => by simp at e <;> omega), setcell_keep (SK.out _ KX.out).2.2.2.2.2.1 (fun e => by simp at e <;> omega), setcell_keep (SK.out _ KX.out).2.2.2.2.2.2 (fun e => by simp at e <;> omega)⟩))
    clear hK K hHeld
    have hHeld := hH2
    clear hH2
    try simp only [Act.put, List.setIfInBounds_toArray, List.set_cons_zero, List.set_cons_succ]
    refine wpAnyH_take (i := 14) (v := ?_) rfl (by kernel_rfl) (by kernel_rfl) (by kernel_rfl) (fun _ _ _ h => h) (Or.inl ⟨by rfl, ?_⟩) hHeld ?_
    rotate_left
    · (intro w' hSw; (try dsimp only at hSw); go_simp; (try with_reducible rfl))
    try simp only [Act.put, List.setIfInBounds_toArray, List.set_cons_zero, List.set_cons_succ]
    refine wpAnyH_take (i := 15) (v := ?_) rfl (by kernel_rfl) (by kernel_rfl) (by kernel_rfl) (fun _ _ _ h => h) (Or.inl ⟨by rfl, ?_⟩) hHeld ?_
    rotate_left
    · (intro w' hSw; (try dsimp only at hSw); go_simp; (try with_reducible rfl))
    try simp only [Act.put, List.setIfInBounds_toArray, List.set_cons_zero, List.set_cons_succ]
    refine wpAnyH_ready (rs := [16]) (by kernel_rfl) (by simp) ?_
    refine AllReadyH.cons rfl (fun K hK => ?_) AllReadyH.nil
    go_simp
    refine hK.out _ _ ?_ (fun hH2 => ?_)
    · ((try dsimp only); (first | exact ⟨b4, k0, k1, k2, v0, v1, v2⟩ | exact SK.out _ ((Keeps.refl _ wc).drewN _) | exact SK.out _ (((Keeps.refl _ wc).drewN _).alloc _) | exact SK.out _ KX.out | exact ⟨setcell_keep (SK.out _ KX.out).1 (by simp), setcell_keep (SK.out _ KX.out).2.1 (fun e => by simp at e <;> omega), setcell_keep (SK.out _ KX.out).2.2.1 (fun e => by simp at e <;> omega), setcell_keep (SK.out _ KX.out).2.2.2.1 (fun e => by simp at e <;> omega), setcell_keep (SK.out _ KX.out).2.2.2.2.1 (fun e => by simp at e <;> omega), setcell_keep (SK.out _ KX.out).2.2.2.2.2.1 (fun e => by simp at e <;> omega), setcell_keep (SK.out _ KX.out).2.2.2.2.2.2 (fun e => by simp at e <;> omega)⟩))
    clear hK K hHeld
    have hHeld := hH2
    clear hH2
    try simp only [Act.put, List.setIfInBounds_toArray, List.set_cons_zero, List.set_cons_succ]
    refine wpAnyH_done (by kernel_rfl) ?_ _
    refine NoPanic.normal ?_
    rotate_left
    go_simp
    refine hK.out _ _ ?_ (fun hH2 => ?_)
    · ((try dsimp only); (first | exact ⟨b4, k0, k1, k2, v0, v1, v2⟩ | exact SK.out _ ((Keeps.refl _ wc).drewN _) | exact SK.out _ (((Keeps.refl _ wc).drewN _).alloc _) | exact SK.out _ KX.out | exact ⟨setcell_keep (SK.out _ KX.out).1 (by simp), setcell_keep (SK.out _ KX.out).2.1 (fun e => by simp at e <;> omega), setcell_keep (SK.out _ KX.out).2.2.1 (fun e => by simp at e <;> omega), setcell_keep (SK.out _ KX.out).2.2.2.1 (fun e => by simp at e <;> omega), setcell_keep (SK.out _ KX.out).2.2.2.2.1 (fun e => by simp at e <;> omega), setcell_keep (SK.out _ KX.out).2.2.2.2.2.1 (fun e => by simp at e <;> omega), setcell_keep (SK.out _ KX.out).2.2.2.2.2.2 (fun e => by simp at e <;> omega)⟩))
    clear hK K hHeld
    have hHeld := hH2
    clear hH2
    try simp only [Act.put, List.setIfInBounds_toArray, List.set_cons_zero, List.set_cons_succ]
    refine wpAnyH_ready (rs := [4]) (by kernel_rfl) (by simp) ?_
    refine AllReadyH.cons rfl (fun K hK => ?_) AllReadyH.nil
    go_simp
    refine hK.out _ _ ?_ (fun hH2 => ?_)
    · ((try dsimp only); (first | exact ⟨b4, k0, k1, k2, v0, v1, v2⟩ | exact SK.out _ ((Keeps.refl _ wc).drewN _) | exact SK.out _ (((Keeps.refl _ wc).drewN _).alloc _) | exact SK.out _ KX.out | exact ⟨setcell_keep (SK.out _ KX.out).1 (by simp), setcell_keep (SK.out _ KX.out).2.1 (fun e => by simp at e <;> omega), setcell_keep (SK.out _ KX.out).2.2.1 (fun e => by simp at e <;> omega), setcell_keep (SK.out _ KX.out).2.2.2.1 (fun e => by simp at e <;> omega), setcell_keep (SK.out _ KX.out).2.2.2.2.1 (fun e => by simp at e <;> omega), setcell_keep (SK.out _ KX.out).2.2.2.2.2.1 (fun e => by simp at e <;> omega), setcell_keep (SK.out _ KX.out).2.2.2.2.2.2 (fun e => by simp at e <;> omega)⟩))
    clear hK K hHeld
    have hHeld := hH2
    clear hH2
    try simp only [Act.put, List.setIfInBounds_toArray, List.set_cons_zero, List.set_cons_succ]
    refine wpAnyH_ready (rs := [13]) (by kernel_rfl) (by simp) ?_
    refine AllReadyH.cons rfl (fun K hK => ?_) AllReadyH.nil
    (first | (refine app_step rfl F _ _ _ _ _ _ 8 80 rfl Try.underlying108 info_ent rfl (by decide) (.slice Ae E1.length ce) E1.length (flatE E1) rfl (TC.out.ents.alloc _).drew _ rfl 1 _ (ent_src wc ⟨key, val, ser + 1, false⟩ (by first | rfl | simp)) (by omega) (by omega) ?_; intro A6 c6 w6 hR6 hK6; have HR6 := hidden hR6; have HK6 := hidden (Keeps.undrewn hK6); have KX := hidden ((((Keeps.refl (fun k => (Value.slice Ae E1.length ce).ownBlock = some k) wc).alloc _).drew).trans hK6 (fun _ _ h => h)); have g0 := KX.out.cell b0 (fun e => HNE.out b e rfl); have g0d := KX.out.heap TC.out.blk (fun e => HNE.out b e rfl); have g0f := blk_frozen g0d 0; clear hR6 hK6))
    refine hK.out _ _ ?_ (fun hH2 => ?_)
    · ((try dsimp only); (first | exact ⟨b4, k0, k1, k2, v0, v1, v2⟩ | exact SK.out _ ((Keeps.refl _ wc).drewN _) | exact SK.out _ (((Keeps.refl _ wc).drewN _).alloc _) | exact SK.out _ KX.out | exact ⟨setcell_keep (SK.out _ KX.out).1 (by simp), setcell_keep (SK.out _ KX.out).2.1 (fun e => by simp at e <;> omega), setcell_keep (SK.out _ KX.out).2.2.1 (fun e => by simp at e <;> omega), setcell_keep (SK.out _ KX.out).2.2.2.1 (fun e => by simp at e <;> omega), setcell_keep (SK.out _ KX.out).2.2.2.2.1 (fun e => by simp at e <;> omega), setcell_keep (SK.out _ KX.out).2.2.2.2.2.1 (fun e => by simp at e <;> omega), setcell_keep (SK.out _ KX.out).2.2.2.2.2.2 (fun e => by simp at e <;> omega)⟩))
    clear hK K hHeld
    have hHeld := hH2
    clear hH2
    try simp only [Act.put, List.setIfInBounds_toArray, List.set_cons_zero, List.set_cons_succ]
    refine wpAnyH_take (i := 14) (v := ?_) rfl (by kernel_rfl) (by kernel_rfl) (by kernel_rfl) (fun _ _ _ h => h) (Or.inl ⟨by rfl, ?_⟩) hHeld ?_
    rotate_left
    · (intro w' hSw; (try dsimp only at hSw); go_simp; (try with_reducible rfl))
    try simp only [Act.put, List.setIfInBounds_toArray, List.set_cons_zero, List.set_cons_succ]
    refine wpAnyH_take (i := 15) (v := ?_) rfl (by kernel_rfl) (by kernel_rfl) (by kernel_rfl) (fun _ _ _ h => h) (Or.inl ⟨by rfl, ?_⟩) hHeld ?_
    rotate_left
    · (intro w' hSw; (try dsimp only at hSw); go_simp; (try with_reducible rfl))
    try simp only [Act.put, List.setIfInBounds_toArray, List.set_cons_zero, List.set_cons_succ]
    refine wpAnyH_ready (rs := [16]) (by kernel_rfl) (by simp) ?_
    refine AllReadyH.cons rfl (fun K hK => ?_) AllReadyH.nil
    go_simp
    refine hK.out _ _ ?_ (fun hH2 => ?_)
    · ((try dsimp only); (first | exact ⟨b4, k0, k1, k2, v0, v1, v2⟩ | exact SK.out _ ((Keeps.refl _ wc).drewN _) | exact SK.out _ (((Keeps.refl _ wc).drewN _).alloc _) | exact SK.out _ KX.out | exact ⟨setcell_keep (SK.out _ KX.out).1 (by simp), setcell_keep (SK.out _ KX.out).2.1 (fun e => by simp at e <;> omega), setcell_keep (SK.out _ KX.out).2.2.1 (fun e => by simp at e <;> omega), setcell_keep (SK.out _ KX.out).2.2.2.1 (fun e => by simp at e <;> omega), setcell_keep (SK.out _ KX.out).2.2.2.2.1 (fun e => by simp at e <;> omega), setcell_keep (SK.out _ KX.out).2.2.2.2.2.1 (fun e => by simp at e <;> omega), setcell_keep (SK.out _ KX.out).2.2.2.2.2.2 (fun e => by simp at e <;> omega)⟩))
    clear hK K hHeld
    have hHeld := hH2
    clear hH2
    try simp only [Act.put, List.setIfInBounds_toArray, List.set_cons_zero, List.set_cons_succ]
    refine wpAnyH_done (by kernel_rfl) ?_ _
    refine NoPanic.normal ?_
    rotate_left
    all_goals
      obtain ⟨F2, T5, k5, f5⟩ := tab_grew (t := ⟨E1, S1, live, used1, ser + 1⟩) (e := ⟨key, val, ser + 1, false⟩) TC.out rfl HR6.out HK6.out
      have TD := hidden T5
      have HKd := hidden (HKc.out.trans k5 (fun i hi h => HFF.out i hi h))
      have HFd := hidden f5
      have hwc := HKc.out.size
      clear T5 k5 f5 HR6 HK6 KX SK g0 g0d g0f b0 b0f b4 k0 k1 k2 v0 v1 v2 hkz hvz hbc
      go_upto_region 16 with fail
      generalize w6.setCell ⟨b, 0, none⟩ (.slice A6 (E1.length + 1) c6) = wd at *
      have b0 := blk_cell TD.out.blk 0
      have b1 := blk_cell TD.out.blk 1
      have b2 := blk_cell TD.out.blk 2
      have b2f := blk_frozen TD.out.blk 2
      simp only [List.getElem?_toArray, List.getElem?_cons_zero, List.getElem?_cons_succ] at b0 b1 b2
      have hbd := blk_lt TD.out.blk
      obtain ⟨g', e', -, hgsd, hc, hcf⟩ := slot_cell TD.out.slots hs0
      simp at e'
      subst e'
      have n4 : gs ≠ b := TD.out.slots.ne TD.out.blk (by decide) gs rfl
      go_region
      go_wp2_with fail
      obtain ⟨T7, k7⟩ := tab_slot (t := ⟨E1 ++ [⟨key, val, ser + 1, false⟩], S1, live, used1, ser + 1⟩) TD.out fi ((E1.length : Int) + 1)
      obtain ⟨T8, k8⟩ := tab_num (t := ⟨E1 ++ [⟨key, val, ser + 1, false⟩], S1.set fi ((E1.length : Int) + 1), live, used1, ser + 1⟩) T7 (i := 2) (n := live + 1) (t' := ⟨E1 ++ [⟨key, val, ser + 1, false⟩], S1.set fi ((E1.length : Int) + 1), live + 1, used1, ser + 1⟩) rfl rfl rfl
      refine hR.out _ _ ⟨F2, rfl, ?_, ?_, ?_⟩
      · rw [hFT.out, HU.out]
        exact ⟨_, _, T8.none ((Keeps.refl _ _).drewN 1)⟩
      · exact (HKd.out.trans (k7.trans k8 (fun _ _ h => h)) (fun i hi h => (HFd.out i h).elim (fun h => HFF.out i hi h) (fun h => by omega))).drew
      · exact fun k hk => (HFd.out k hk).elim (fun h => HFR.out k h) (fun h => .inr (by omega))
set_option maxHeartbeats 8000000 in
theorem table_Put_more (w : World) (F : Nat → Prop) (b : Nat) (t : Tb) (key val : V) (h : IsTab w F b t) (hs : t.safe) (hk : key.t.size ≤ 140737488351232) (h0 : key.k ≠ 0) (hf : (findT t key).2 = false) (hr : t.room) (hp : 3 * (t.S.length : Int) < 4 * (t.used + 1)) (hlv : t.live = (stay t.E).length) (hkeys : ∀ x ∈ t.E, x.key.t.size ≤ 140737488351232) (hsl : t.S.length ≤ 1073741824) :
    Calls Try.prog 30 #[.pointer (some ⟨b, 0, none⟩), key.val, val.val] w fun e w' => ∃ (F' : Nat → Prop) (m : Nat), e = .returned (.int .i64 0) ∧ 2 ≤ m ∧ m ≤ 30 ∧ 4 * ((stay t.E).length + 1) ≤ 2 * 2 ^ m ∧ IsTab w' F' b (putT ⟨stay t.E, fillT (stay t.E) (stay t.E).length (List.replicate (2 ^ m) 0), t.live, t.live, t.ser⟩ key val) ∧ Keeps F w w' ∧ Fresh F F' w := by
  have c1 := hidden (fun (W : World) (hK : Keeps (fun _ => False) w W) => table_find W F b t key (h.none hK) hs hk)
  have kre := hidden (fun (W : World) (hK : Keeps (fun _ => False) w W) => table_rehash W F b t (h.none hK) hs hlv (by have := hr.live; omega) hkeys)
  have hi0 : (key.k == 0) = false := by rw [beq_eq_false_iff_ne]; exact h0
  obtain ⟨⟨hr1, hr2⟩, ⟨hu1, hu2⟩, ⟨hv1, hv2⟩, hm⟩ := hr
  have HBK := hidden (show IsVar ((w.alloc (.cells #[.int .i64 key.k, .int .i64 key.n, .string key.t] 26)).alloc (.cells #[.int .i64 val.k, .int .i64 val.n, .string val.t] 26)) w.heap.size key from blk_alloc (blk_new w _) _)
  have HBV := hidden (show IsVar ((w.alloc (.cells #[.int .i64 key.k, .int .i64 key.n, .string key.t] 26)).alloc (.cells #[.int .i64 val.k, .int .i64 val.n, .string val.t] 26)) (w.heap.size + 1) val from new2t w _ _)
  have HK0 := hidden (show Keeps (fun _ => False) w ((w.alloc (.cells #[.int .i64 key.k, .int .i64 key.n, .string key.t] 26)).alloc (.cells #[.int .i64 val.k, .int .i64 val.n, .string val.t] 26)) from ((Keeps.refl _ w).alloc _).alloc _)
  have HIN := hidden h.inw
  have HBF := hidden (show F b from by obtain ⟨_, _, h⟩ := h; exact h.here)
  have hsn : (stay t.E).length ≤ t.E.length := List.length_filter_le _ _
  have TT0 := hidden (h.none HK0.out)
  rw [hf] at c1
  generalize (findT t key).1 = fi0 at *
  obtain ⟨E0, S0, live, used0, ser⟩ := t
  simp only at *
  generalize stay E0 = E1 at *
  have hd1 : IntKind.i64.wrap (used0 + 1) = used0 + 1 := by rw [IntKind.wrap_i64]; omega
  have hd2 : IntKind.i64.wrap (4 * (used0 + 1)) = 4 * (used0 + 1) := by rw [IntKind.wrap_i64]; omega
  have hd3 : IntKind.i64.wrap (3 * (S0.length : Int)) = 3 * (S0.length : Int) := by rw [IntKind.wrap_i64]; omega
  have hd4 : (live == 1048576) = false := by rw [beq_eq_false_iff_ne]; omega
  have HLV := hidden hlv
  clear hf hs hkeys h hlv
  unfold V.val at *
  refine post_gen fun R hR => ?_
  go_enter Try.func30, Try.ntmps30
  go_wp2_with fail
  refine (c1.out _ HK0.out).mono ?_
  rintro e wz ⟨rfl, hK⟩
  have HKz := hidden (HK0.out.trans hK (fun _ _ h => h))
  have HZk := hidden (show IsVar wz w.heap.size key from hK.heap HBK.out (fun h => h))
  have HZv := hidden (show IsVar wz (w.heap.size + 1) val from hK.heap HBV.out (fun h => h))
  have TZ0 := hidden (TT0.out.none hK)
  clear hK c1 TT0 HBK HBV HK0
  obtain ⟨vez, vsz, tz⟩ := TZ0.out
  obtain ⟨Az, cz, rfl⟩ := tz.slots.form
  have b1 := blk_cell tz.blk 1
  have b2 := blk_cell tz.blk 2
  have b3 := blk_cell tz.blk 3
  simp only [List.getElem?_toArray, List.getElem?_cons_zero, List.getElem?_cons_succ] at b1 b2 b3
  clear tz TZ0
  go_wp2_with fail
  go_quiet (fail)
  go_wp2_with fail
  refine (kre.out _ (HKz.out.drewN nq)).mono ?_
  rintro e wa ⟨F1, m, rfl, hm2, hm30, hms, hT1, hK, hF1⟩
  have HO1 := hidden (show ¬ F1 w.heap.size ∧ ¬ F1 (w.heap.size + 1) from
    ⟨fun h => by
      have hz := blk_lt HZk.out
      rcases hF1 _ h with h | h
      · have := HIN.out _ h; omega
      · simp at h; omega,
    fun h => by
      have hz := blk_lt HZv.out
      rcases hF1 _ h with h | h
      · have := HIN.out _ h; omega
      · simp at h; omega⟩)
  have HAk := hidden (show IsVar wa w.heap.size key from hK.heap HZk.out (fun h => by have := HIN.out _ h; omega))
  have HAv := hidden (show IsVar wa (w.heap.size + 1) val from hK.heap HZv.out (fun h => by have := HIN.out _ h; omega))
  have HKa := hidden (((HKz.out.drewN nq).mono (T := F) (fun _ _ h => h.elim)).trans hK (fun _ _ h => h))
  have HFR := hidden (show Fresh F F1 w from fun k hk => (hF1 k hk).imp id (fun h => by have := HKz.out.size; simp at h; omega))
  have HFF := hidden (show ∀ i : Nat, i < w.heap.size → F1 i → F i from fun i hi h => (HFR.out i h).elim id (fun h => by omega))
  have HBW := hidden (show b < w.heap.size from HIN.out b HBF.out)
  have hM : 2 ^ m ≤ 1073741824 := Nat.pow_le_pow_right (by decide) hm30
  have hS0 : 0 < 2 ^ m := Nat.two_pow_pos m
  have hS1 : (fillT E1 E1.length (List.replicate (2 ^ m) 0)).length = 2 ^ m := by rw [fillT_length, List.length_replicate]
  have hsafe : (Tb.mk E1 (fillT E1 E1.length (List.replicate (2 ^ m) 0)) live live ser).safe := ⟨.inr ⟨m, hm30, hS1⟩, fillT_in E1 (2 ^ m) E1.length, by show E1.length ≤ _; omega⟩
  have hfi := findT_lt (t := ⟨E1, fillT E1 E1.length (List.replicate (2 ^ m) 0), live, live, ser⟩) (key := key) (by show 0 < (fillT E1 _ _).length; rw [hS1]; exact hS0)
  have cf := hidden (fun (W : World) (hk0 : Keeps (fun _ => False) wa W) => table_find W F1 b ⟨E1, fillT E1 E1.length (List.replicate (2 ^ m) 0), live, live, ser⟩ key (hT1.none hk0) hsafe hk)
  have hFT := hidden (show putT ⟨E1, fillT E1 E1.length (List.replicate (2 ^ m) 0), live, live, ser⟩ key val = ⟨E1 ++ [⟨key, val, ser + 1, false⟩], (fillT E1 E1.length (List.replicate (2 ^ m) 0)).set (findT ⟨E1, fillT E1 E1.length (List.replicate (2 ^ m) 0), live, live, ser⟩ key).1 ((E1.length : Int) + 1), live + 1, if (fillT E1 E1.length (List.replicate (2 ^ m) 0)).getD (findT ⟨E1, fillT E1 E1.length (List.replicate (2 ^ m) 0), live, live, ser⟩ key).1 0 = (0 : Int) then live + 1 else live, ser + 1⟩ from rfl)
  obtain ⟨ve, vs, TA0⟩ := hT1
  obtain ⟨Ae, ce, rfl⟩ := TA0.ents.form
  obtain ⟨As, cs, rfl⟩ := TA0.slots.form
  have HM := hidden hms
  clear hsafe hK hF1 HZk HZv HKz b1 b2 b3 kre hS1
  generalize (findT ⟨E1, fillT E1 E1.length (List.replicate (2 ^ m) 0), live, live, ser⟩ key).1 = fi at *
  generalize (findT ⟨E1, fillT E1 E1.length (List.replicate (2 ^ m) 0), live, live, ser⟩ key).2 = fb at *
  generalize hpt : putT ⟨E1, fillT E1 E1.length (List.replicate (2 ^ m) 0), live, live, ser⟩ key val = pt at *
  have HPT := hidden hpt
  clear hpt
  generalize hS1e : fillT E1 E1.length (List.replicate (2 ^ m) 0) = S1 at TA0 hFT cf hfi
  have HSE := hidden hS1e
  clear hS1e
  have TA := hidden TA0
  unfold V.val at cf
  have hm' : E1.length < 1073741824 := by omega
  clear TA0 hms
  obtain ⟨k0, k1, k2, -⟩ := HAk.out.cells
  have hkz := blk_lt HAk.out
  go_wp2_with fail
  refine (cf.out _ (Keeps.refl _ _)).mono ?_
  rintro e wb ⟨rfl, hK⟩
  have TB := hidden (TA.out.none hK)
  have HBk := hidden (show IsVar wb w.heap.size key from hK.heap HAk.out (fun h => h))
  have HBv := hidden (show IsVar wb (w.heap.size + 1) val from hK.heap HAv.out (fun h => h))
  have HKb := hidden (HKa.out.trans hK (fun _ _ h => h.elim))
  clear hK cf TA HAk HAv HKa
  obtain ⟨s0, hs0⟩ : ∃ s0, S1[fi]? = some s0 := ⟨_, List.getElem?_eq_getElem hfi⟩
  have HS0 := hidden (show S1.getD fi 0 = s0 by rw [List.getD_eq_getElem?_getD, hs0]; rfl)
  obtain ⟨gs, rfl, hFgs, hgs, hc, hcf⟩ := slot_cell TB.out.slots hs0
  have b1 := blk_cell TB.out.blk 1
  have b3 := blk_cell TB.out.blk 3
  have b4 := blk_cell TB.out.blk 4
  have b3f := blk_frozen TB.out.blk 3
  have b4f := blk_frozen TB.out.blk 4
  simp only [List.getElem?_toArray, List.getElem?_cons_zero, List.getElem?_cons_succ] at b1 b3 b4
  have hbw := blk_lt TB.out.blk
  have hu1 : IntKind.i64.wrap (live + 1) = live + 1 := by rw [IntKind.wrap_i64]; omega
  have hr1 : IntKind.i64.wrap (ser + 1) = ser + 1 := by rw [IntKind.wrap_i64]; omega
  have hl1 : IntKind.i64.wrap (live + 1) = live + 1 := by rw [IntKind.wrap_i64]; omega
  by_cases hs00 : s0 = 0
  · subst hs00
    go_upto_region 15 with fail
    obtain ⟨T2, k2⟩ := tab_num (t := ⟨E1, S1, live, live, ser⟩) TB.out (i := 3) (n := live + 1) (t' := ⟨E1, S1, live, live + 1, ser⟩) rfl rfl rfl
    obtain ⟨T3, k3⟩ := tab_num (t := ⟨E1, S1, live, live + 1, ser⟩) T2 (i := 4) (n := ser + 1) (t' := ⟨E1, S1, live, live + 1, ser + 1⟩) rfl rfl rfl
    have TC := hidden T3
    have KC := hidden (k2.trans k3 (fun _ _ h => h))
    have HU := hidden (show (if S1.getD fi 0 = (0 : Int) then live + 1 else live) = live + 1 by rw [HS0.out]; rfl)
    clear T2 T3 k2 k3 b1 b3 b4 b3f b4f hc hcf
    generalize (wb.setCell ⟨b, 3, none⟩ (.int .i64 (live + 1))).setCell ⟨b, 4, none⟩ (.int .i64 (ser + 1)) = wc at *
    have HCk := hidden (show IsVar wc w.heap.size key from KC.out.heap HBk.out HO1.out.1)
    have HCv := hidden (show IsVar wc (w.heap.size + 1) val from KC.out.heap HBv.out HO1.out.2)
    have HKc := hidden (HKb.out.trans KC.out (fun i hi h => HFF.out i hi h))
    clear TB HBk HBv HKb KC hu1
    have b0 := blk_cell TC.out.blk 0
    have b0f := blk_frozen TC.out.blk 0
    have b4 := blk_cell TC.out.blk 4
    simp only [List.getElem?_toArray, List.getElem?_cons_zero, List.getElem?_cons_succ] at b0 b4
    have hbc := blk_lt TC.out.blk
    obtain ⟨k0, k1, k2, -⟩ := HCk.out.cells
    obtain ⟨v0, v1, v2, -⟩ := HCv.out.cells
    have hkz := blk_lt HCk.out
    have hvz := blk_lt HCv.out
    have HNE := hidden (TC.out.ents.ne TC.out.blk (by decide))
    have HOW := hidden (fun k (e : (Value.slice Ae E1.length ce).ownBlock = some k) => TC.out.ents.2 k e)
    have hbw0 := HBW.out
    have SK := hidden (show ∀ W', Keeps (fun k => (Value.slice Ae E1.length ce).ownBlock = some k) wc W' → (W'.cell? ⟨b, 4, none⟩ = some (.int .i64 (ser + 1)) ∧ W'.cell? ⟨w.heap.size, 0, none⟩ = some (.int .i64 key.k) ∧ W'.cell? ⟨w.heap.size, 1, none⟩ = some (.int .i64 key.n) ∧ W'.cell? ⟨w.heap.size, 2, none⟩ = some (.string key.t) ∧ W'.cell? ⟨w.heap.size + 1, 0, none⟩ = some (.int .i64 val.k) ∧ W'.cell? ⟨w.heap.size + 1, 1, none⟩ = some (.int .i64 val.n) ∧ W'.cell? ⟨w.heap.size + 1, 2, none⟩ = some (.string val.t)) from fun W' hk =>
      ⟨hk.cell b4 (fun e => HNE.out b e rfl), hk.cell k0 (fun e => HO1.out.1 (HOW.out _ e)), hk.cell k1 (fun e => HO1.out.1 (HOW.out _ e)), hk.cell k2 (fun e => HO1.out.1 (HOW.out _ e)), hk.cell v0 (fun e => HO1.out.2 (HOW.out _ e)), hk.cell v1 (fun e => HO1.out.2 (HOW.out _ e)), hk.cell v2 (fun e => HO1.out.2 (HOW.out _ e))⟩)
    refine wp_region_noPanic ?_
    refine wp_region_held_drew (S := (fun w' => w'.cell? ⟨b, 4, none⟩ = some (.int .i64 (ser + 1)) ∧ w'.cell? ⟨w.heap.size, 0, none⟩ = some (.int .i64 key.k) ∧ w'.cell? ⟨w.heap.size, 1, none⟩ = some (.int .i64 key.n) ∧ w'.cell? ⟨w.heap.size, 2, none⟩ = some (.string key.t) ∧ w'.cell? ⟨w.heap.size + 1, 0, none⟩ = some (.int .i64 val.k) ∧ w'.cell? ⟨w.heap.size + 1, 1, none⟩ = some (.int .i64 val.n) ∧ w'.cell? ⟨w.heap.size + 1, 2, none⟩ = some (.string val.t))) (by kernel_rfl) ?_ (fun hHeld => ?_)
    · ((try dsimp only); (first | exact ⟨b4, k0, k1, k2, v0, v1, v2⟩ | exact SK.out _ ((Keeps.refl _ wc).drewN _) | exact SK.out _ (((Keeps.refl _ wc).drewN _).alloc _) | exact SK.out _ KX.out | exact ⟨setcell_keep (SK.out _ KX.out).1 (by simp), setcell_keep (SK.out _ KX.out).2.1 (fun e => by simp at e <;> omega), setcell_keep (SK.out _ KX.out).2.2.1 (fun e => by simp at e <;> omega), setcell_keep (SK.out _ KX.out).2.2.2.1 (fun e => by simp at e <;> omega), setcell_keep (SK.out _ KX.out).2.2.2.2.1 (fun e => by simp at e <;> omega), setcell_keep (SK.out _ KX.out).2.2.2.2.2.1 (fun e => by simp at e <;> omega), setcell_keep (SK.out _ KX.out).2.2.2.2.2.2 (fun e => by simp at e <;> omega)⟩))
    refine wpAnyH_take (i := 0) (v := ?_) rfl (by kernel_rfl) (by kernel_rfl) (by kernel_rfl) (fun _ _ _ h => h) (Or.inl ⟨by rfl, ?_⟩) hHeld ?_
    rotate_left
    · (intro w' hSw; (try dsimp only at hSw); go_simp; (try with_reducible rfl))
    try simp only [Act.put, List.setIfInBounds_toArray, List.set_cons_zero, List.set_cons_succ]
    refine wpAnyH_take (i := 1) (v := ?_) rfl (by kernel_rfl) (by kernel_rfl) (by kernel_rfl) (fun _ _ _ h => h) (Or.inl ⟨by rfl, ?_⟩) hHeld ?_
    rotate_left
    · (intro w' hSw; (try dsimp only at hSw); go_simp; (try with_reducible rfl))
    try simp only [Act.put, List.setIfInBounds_toArray, List.set_cons_zero, List.set_cons_succ]
    refine wpAnyH_take (i := 2) (v := ?_) rfl (by kernel_rfl) (by kernel_rfl) (by kernel_rfl) (fun _ _ _ h => h) (Or.inl ⟨by rfl, ?_⟩) hHeld ?_
    rotate_left
    · (intro w' hSw; (try dsimp only at hSw); go_simp; (try with_reducible rfl))
    try simp only [Act.put, List.setIfInBounds_toArray, List.set_cons_zero, List.set_cons_succ]
    refine wpAnyH_take (i := 3) (v := ?_) rfl (by kernel_rfl) (by kernel_rfl) (by kernel_rfl) (fun _ _ _ h => h) (Or.inl ⟨by rfl, ?_⟩) hHeld ?_
    rotate_left
    · (intro w' hSw; (try dsimp only at hSw); go_simp; (try with_reducible rfl))
    try simp only [Act.put, List.setIfInBounds_toArray, List.set_cons_zero, List.set_cons_succ]
    refine wpAnyH_take (i := 5) (v := ?_) rfl (by kernel_rfl) (by kernel_rfl) (by kernel_rfl) (fun _ _ _ h => h) (Or.inl ⟨by rfl, ?_⟩) hHeld ?_
    rotate_left
    · (intro w' hSw; (try dsimp only at hSw); go_simp; (try with_reducible rfl))
    try simp only [Act.put, List.setIfInBounds_toArray, List.set_cons_zero, List.set_cons_succ]
    refine wpAnyH_take (i := 6) (v := ?_) rfl (by kernel_rfl) (by kernel_rfl) (by kernel_rfl) (fun _ _ _ h => h) (Or.inl ⟨by rfl, ?_⟩) hHeld ?_
    rotate_left
    · (intro w' hSw; (try dsimp only at hSw); go_simp; (try with_reducible rfl))
    try simp only [Act.put, List.setIfInBounds_toArray, List.set_cons_zero, List.set_cons_succ]
    refine wpAnyH_take (i := 7) (v := ?_) rfl (by kernel_rfl) (by kernel_rfl) (by kernel_rfl) (fun _ _ _ h => h) (Or.inl ⟨by rfl, ?_⟩) hHeld ?_
    rotate_left
    · (intro w' hSw; (try dsimp only at hSw); go_simp; (try with_reducible rfl))
    try simp only [Act.put, List.setIfInBounds_toArray, List.set_cons_zero, List.set_cons_succ]
    refine wpAnyH_take (i := 8) (v := ?_) rfl (by kernel_rfl) (by kernel_rfl) (by kernel_rfl) (fun _ _ _ h => h) (Or.inl ⟨by rfl, ?_⟩) hHeld ?_
    rotate_left
    · (intro w' hSw; (try dsimp only at hSw); go_simp; (try with_reducible rfl))
    try simp only [Act.put, List.setIfInBounds_toArray, List.set_cons_zero, List.set_cons_succ]
    refine wpAnyH_take (i := 9) (v := ?_) rfl (by kernel_rfl) (by kernel_rfl) (by kernel_rfl) (fun _ _ _ h => h) (Or.inl ⟨by rfl, ?_⟩) hHeld ?_
    rotate_left
    · (intro w' hSw; (try dsimp only at hSw); go_simp; (try with_reducible rfl))
    try simp only [Act.put, List.setIfInBounds_toArray, List.set_cons_zero, List.set_cons_succ]
    refine wpAnyH_take (i := 10) (v := ?_) rfl (by kernel_rfl) (by kernel_rfl) (by kernel_rfl) (fun _ _ _ h => h) (Or.inl ⟨by rfl, ?_⟩) hHeld ?_
    rotate_left
    · (intro w' hSw; (try dsimp only at hSw); go_simp; (try with_reducible rfl))
    try simp only [Act.put, List.setIfInBounds_toArray, List.set_cons_zero, List.set_cons_succ]
    refine wpAnyH_take (i := 11) (v := ?_) rfl (by kernel_rfl) (by kernel_rfl) (by kernel_rfl) (fun _ _ _ h => h) (Or.inl ⟨by rfl, ?_⟩) hHeld ?_
    rotate_left
    · (intro w' hSw; (try dsimp only at hSw); go_simp; (try with_reducible rfl))
    try simp only [Act.put, List.setIfInBounds_toArray, List.set_cons_zero, List.set_cons_succ]
    refine wpAnyH_ready (rs := [4, 12]) (by kernel_rfl) (by simp) ?_
    refine (AllReadyH.cons rfl (fun K hK => ?_) (AllReadyH.cons rfl (fun K hK => ?_) AllReadyH.nil))
    go_simp
    refine hK.out _ _ ?_ (fun hH2 => ?_)
    · ((try dsimp only); (first | exact ⟨b4, k0, k1, k2, v0, v1, v2⟩ | exact SK.out _ ((Keeps.refl _ wc).drewN _) | exact SK.out _ (((Keeps.refl _ wc).drewN _).alloc _) | exact SK.out _ KX.out | exact ⟨setcell_keep (SK.out _ KX.out).1 (by simp), setcell_keep (SK.out _ KX.out).2.1 (fun e => by simp at e <;> omega), setcell_keep (SK.out _ KX.out).2.2.1 (fun e => by simp at e <;> omega), setcell_keep (SK.out _ KX.out).2.2.2.1 (fun e => by simp at e <;> omega), setcell_keep (SK.out _ KX.out).2.2.2.2.1 (fun e => by simp at e <;> omega), setcell_keep (SK.out _ KX.out).2.2.2.2.2.1 (fun e => by simp at e <;> omega), setcell_keep (SK.out _ KX.out).2.2.2.2.2.2 (fun e => by simp at e <;> omega)⟩))
    clear hK K hHeld
    have hHeld := hH2
    clear hH2
    try simp only [Act.put, List.setIfInBounds_toArray, List.set_cons_zero, List.set_cons_succ]
    refine wpAnyH_ready (rs := [12]) (by kernel_rfl) (by simp) ?_
    refine AllReadyH.cons rfl (fun K hK => ?_) AllReadyH.nil
    go_simp
    refine hK.out _ _ ?_ (fun hH2 => ?_)
    · ((try dsimp only); (first | exact ⟨b4, k0, k1, k2, v0, v1, v2⟩ | exact SK.out _ ((Keeps.refl _ wc).drewN _) | exact SK.out _ (((Keeps.refl _ wc).drewN _).alloc _) | exact SK.out _ KX.out | exact ⟨setcell_keep (SK.out _ KX.out).1 (by simp), setcell_keep (SK.out _ KX.out).2.1 (fun e => by simp at e <;> omega), setcell_keep (SK.out _ KX.out).2.2.1 (fun e => by simp at e <;> omega), setcell_keep (SK.out _ KX.out).2.2.2.1 (fun e => by simp at e <;> omega), setcell_keep (SK.out _ KX.out).2.2.2.2.1 (fun e => by simp at e <;> omega), setcell_keep (SK.out _ KX.out).2.2.2.2.2.1 (fun e => by simp at e <;> omega), setcell_keep (SK.out _ KX.out).2.2.2.2.2.2 (fun e => by simp at e <;> omega)⟩))
    clear hK K hHeld
    have hHeld := hH2
    clear hH2
    try simp only [Act.put, List.setIfInBounds_toArray, List.set_cons_zero, List.set_cons_succ]
    refine wpAnyH_ready (rs := [13]) (by kernel_rfl) (by simp) ?_
    refine AllReadyH.cons rfl (fun K hK => ?_) AllReadyH.nil
    (first | (refine app_step rfl F1 _ _ _ _ _ _ 8 80 rfl Try.underlying108 info_ent rfl (by decide) (.slice Ae E1.length ce) E1.length (flatE E1) rfl (TC.out.ents.alloc _).drew _ rfl 1 _ (ent_src wc ⟨key, val, ser + 1, false⟩ (by first | rfl | simp)) (by omega) (by omega) ?_; intro A6 c6 w6 hR6 hK6; have HR6 := hidden hR6; have HK6 := hidden (Keeps.undrewn hK6); have KX := hidden ((((Keeps.refl (fun k => (Value.slice Ae E1.length ce).ownBlock = some k) wc).alloc _).drew).trans hK6 (fun _ _ h => h)); have g0 := KX.out.cell b0 (fun e => HNE.out b e rfl); have g0d := KX.out.heap TC.out.blk (fun e => HNE.out b e rfl); have g0f := blk_frozen g0d 0; clear hR6 hK6))
    refine hK.out _ _ ?_ (fun hH2 => ?_)
    · ((try dsimp only); (first | exact ⟨b4, k0, k1, k2, v0, v1, v2⟩ | exact SK.out _ ((Keeps.refl _ wc).drewN _) | exact SK.out _ (((Keeps.refl _ wc).drewN _).alloc _) | exact SK.out _ KX.out | exact ⟨setcell_keep (SK.out _ KX.out).1 (by simp), setcell_keep (SK.out _ KX.out).2.1 (fun e => by simp at e <;> omega), setcell_keep (SK.out _ KX.out).2.2.1 (fun e => by simp at e <;> omega), setcell_keep (SK.out _ KX.out).2.2.2.1 (fun e => by simp at e <;> omega), setcell_keep (SK.out _ KX.out).2.2.2.2.1 (fun e => by simp at e <;> omega), setcell_keep (SK.out _ KX.out).2.2.2.2.2.1 (fun e => by simp at e <;> omega), setcell_keep (SK.out _ KX.out).2.2.2.2.2.2 (fun e => by simp at e <;> omega)⟩))
    clear hK K hHeld
    have hHeld := hH2
    clear hH2
    try simp only [Act.put, List.setIfInBounds_toArray, List.set_cons_zero, List.set_cons_succ]
    refine wpAnyH_take (i := 14) (v := ?_) rfl (by kernel_rfl) (by kernel_rfl) (by kernel_rfl) (fun _ _ _ h => h) (Or.inl ⟨by rfl, ?_⟩) hHeld ?_
    rotate_left
    · (intro w' hSw; (try dsimp only at hSw); go_simp; (try with_reducible rfl))
    try simp only [Act.put, List.setIfInBounds_toArray, List.set_cons_zero, List.set_cons_succ]
    refine wpAnyH_take (i := 15) (v := ?_) rfl (by kernel_rfl) (by kernel_rfl) (by kernel_rfl) (fun _ _ _ h => h) (Or.inl ⟨by rfl, ?_⟩) hHeld ?_
    rotate_left
    · (intro w' hSw; (try dsimp only at hSw); go_simp; (try with_reducible rfl))
    try simp only [Act.put, List.setIfInBounds_toArray, List.set_cons_zero, List.set_cons_succ]
    refine wpAnyH_ready (rs := [16]) (by kernel_rfl) (by simp) ?_
    refine AllReadyH.cons rfl (fun K hK => ?_) AllReadyH.nil
    go_simp
    refine hK.out _ _ ?_ (fun hH2 => ?_)
    · ((try dsimp only); (first | exact ⟨b4, k0, k1, k2, v0, v1, v2⟩ | exact SK.out _ ((Keeps.refl _ wc).drewN _) | exact SK.out _ (((Keeps.refl _ wc).drewN _).alloc _) | exact SK.out _ KX.out | exact ⟨setcell_keep (SK.out _ KX.out).1 (by simp), setcell_keep (SK.out _ KX.out).2.1 (fun e => by simp at e <;> omega), setcell_keep (SK.out _ KX.out).2.2.1 (fun e => by simp at e <;> omega), setcell_keep (SK.out _ KX.out).2.2.2.1 (fun e => by simp at e <;> omega), setcell_keep (SK.out _ KX.out).2.2.2.2.1 (fun e => by simp at e <;> omega), setcell_keep (SK.out _ KX.out).2.2.2.2.2.1 (fun e => by simp at e <;> omega), setcell_keep (SK.out _ KX.out).2.2.2.2.2.2 (fun e => by simp at e <;> omega)⟩))
    clear hK K hHeld
    have hHeld := hH2
    clear hH2
    try simp only [Act.put, List.setIfInBounds_toArray, List.set_cons_zero, List.set_cons_succ]
    refine wpAnyH_done (by kernel_rfl) ?_ _
    refine NoPanic.normal ?_
    rotate_left
    go_simp
    refine hK.out _ _ ?_ (fun hH2 => ?_)
    · ((try dsimp only); (first | exact ⟨b4, k0, k1, k2, v0, v1, v2⟩ | exact SK.out _ ((Keeps.refl _ wc).drewN _) | exact SK.out _ (((Keeps.refl _ wc).drewN _).alloc _) | exact SK.out _ KX.out | exact ⟨setcell_keep (SK.out _ KX.out).1 (by simp), setcell_keep (SK.out _ KX.out).2.1 (fun e => by simp at e <;> omega), setcell_keep (SK.out _ KX.out).2.2.1 (fun e => by simp at e <;> omega), setcell_keep (SK.out _ KX.out).2.2.2.1 (fun e => by simp at e <;> omega), setcell_keep (SK.out _ KX.out).2.2.2.2.1 (fun e => by simp at e <;> omega), setcell_keep (SK.out _ KX.out).2.2.2.2.2.1 (fun e => by simp at e <;> omega), setcell_keep (SK.out _ KX.out).2.2.2.2.2.2 (fun e => by simp at e <;> omega)⟩))
    clear hK K hHeld
    have hHeld := hH2
    clear hH2
    try simp only [Act.put, List.setIfInBounds_toArray, List.set_cons_zero, List.set_cons_succ]
    refine wpAnyH_ready (rs := [4]) (by kernel_rfl) (by simp) ?_
    refine AllReadyH.cons rfl (fun K hK => ?_) AllReadyH.nil
    go_simp
    refine hK.out _ _ ?_ (fun hH2 => ?_)
    · ((try dsimp only); (first | exact ⟨b4, k0, k1, k2, v0, v1, v2⟩ | exact SK.out _ ((Keeps.refl _ wc).drewN _) | exact SK.out _ (((Keeps.refl _ wc).drewN _).alloc _) | exact SK.out _ KX.out | exact ⟨setcell_keep (SK.out _ KX.out).1 (by simp), setcell_keep (SK.out _ KX.out).2.1 (fun e => by simp at e <;> omega), setcell_keep (SK.out _ KX.out).2.2.1 (fun e => by simp at e <;> omega), setcell_keep (SK.out _ KX.out).2.2.2.1 (fun e => by simp at e <;> omega), setcell_keep (SK.out _ KX.out).2.2.2.2.1 (fun e => by simp at e <;> omega), setcell_keep (SK.out _ KX.out).2.2.2.2.2.1 (fun e => by simp at e <;> omega), setcell_keep (SK.out _ KX.out).2.2.2.2.2.2 (fun e => by simp at e <;> omega)⟩))
    clear hK K hHeld
    have hHeld := hH2
    clear hH2
    try simp only [Act.put, List.setIfInBounds_toArray, List.set_cons_zero, List.set_cons_succ]
    refine wpAnyH_ready (rs := [13]) (by kernel_rfl) (by simp) ?_
    refine AllReadyH.cons rfl (fun K hK => ?_) AllReadyH.nil
    (first | (refine app_step rfl F1 _ _ _ _ _ _ 8 80 rfl Try.underlying108 info_ent rfl (by decide) (.slice Ae E1.length ce) E1.length (flatE E1) rfl (TC.out.ents.alloc _).drew _ rfl 1 _ (ent_src wc ⟨key, val, ser + 1, false⟩ (by first | rfl | simp)) (by omega) (by omega) ?_; intro A6 c6 w6 hR6 hK6; have HR6 := hidden hR6; have HK6 := hidden (Keeps.undrewn hK6); have KX := hidden ((((Keeps.refl (fun k => (Value.slice Ae E1.length ce).ownBlock = some k) wc).alloc _).drew).trans hK6 (fun _ _ h => h)); have g0 := KX.out.cell b0 (fun e => HNE.out b e rfl); have g0d := KX.out.heap TC.out.blk (fun e => HNE.out b e rfl); have g0f := blk_frozen g0d 0; clear hR6 hK6))
    refine hK.out _ _ ?_ (fun hH2 => ?_)
    · ((try dsimp only); (first | exact ⟨b4, k0, k1, k2, v0, v1, v2⟩ | exact SK.out _ ((Keeps.refl _ wc).drewN _) | exact SK.out _ (((Keeps.refl _ wc).drewN _).alloc _) | exact SK.out _ KX.out | exact ⟨setcell_keep (SK.out _ KX.out).1 (by simp), setcell_keep (SK.out _ KX.out).2.1 (fun e => by simp at e <;> omega), setcell_keep (SK.out _ KX.out).2.2.1 (fun e => by simp at e <;> omega), setcell_keep (SK.out _ KX.out).2.2.2.1 (fun e => by simp at e <;> omega), setcell_keep (SK.out _ KX.out).2.2.2.2.1 (fun e => by simp at e <;> omega), setcell_keep (SK.out _ KX.out).2.2.2.2.2.1 (fun e => by simp at e <;> omega), setcell_keep (SK.out _ KX.out).2.2.2.2.2.2 (fun e => by simp at e <;> omega)⟩))
    clear hK K hHeld
    have hHeld := hH2
    clear hH2
    try simp only [Act.put, List.setIfInBounds_toArray, List.set_cons_zero, List.set_cons_succ]
    refine wpAnyH_take (i := 14) (v := ?_) rfl (by kernel_rfl) (by kernel_rfl) (by kernel_rfl) (fun _ _ _ h => h) (Or.inl ⟨by rfl, ?_⟩) hHeld ?_
    rotate_left
    · (intro w' hSw; (try dsimp only at hSw); go_simp; (try with_reducible rfl))
    try simp only [Act.put, List.setIfInBounds_toArray, List.set_cons_zero, List.set_cons_succ]
    refine wpAnyH_take (i := 15) (v := ?_) rfl (by kernel_rfl) (by kernel_rfl) (by kernel_rfl) (fun _ _ _ h => h) (Or.inl ⟨by rfl, ?_⟩) hHeld ?_
    rotate_left
    · (intro w' hSw; (try dsimp only at hSw); go_simp; (try with_reducible rfl))
    try simp only [Act.put, List.setIfInBounds_toArray, List.set_cons_zero, List.set_cons_succ]
    refine wpAnyH_ready (rs := [16]) (by kernel_rfl) (by simp) ?_
    refine AllReadyH.cons rfl (fun K hK => ?_) AllReadyH.nil
    go_simp
    refine hK.out _ _ ?_ (fun hH2 => ?_)
    · ((try dsimp only); (first | exact ⟨b4, k0, k1, k2, v0, v1, v2⟩ | exact SK.out _ ((Keeps.refl _ wc).drewN _) | exact SK.out _ (((Keeps.refl _ wc).drewN _).alloc _) | exact SK.out _ KX.out | exact ⟨setcell_keep (SK.out _ KX.out).1 (by simp), setcell_keep (SK.out _ KX.out).2.1 (fun e => by simp at e <;> omega), setcell_keep (SK.out _ KX.out).2.2.1 (fun e => by simp at e <;> omega), setcell_keep (SK.out _ KX.out).2.2.2.1 (fun e => by simp at e <;> omega), setcell_keep (SK.out _ KX.out).2.2.2.2.1 (fun e => by simp at e <;> omega), setcell_keep (SK.out _ KX.out).2.2.2.2.2.1 (fun e => by simp at e <;> omega), setcell_keep (SK.out _ KX.out).2.2.2.2.2.2 (fun e => by simp at e <;> omega)⟩))
    clear hK K hHeld
    have hHeld := hH2
    clear hH2
    try simp only [Act.put, List.setIfInBounds_toArray, List.set_cons_zero, List.set_cons_succ]
    refine wpAnyH_done (by kernel_rfl) ?_ _
    refine NoPanic.normal ?_
    rotate_left
    all_goals
      obtain ⟨F2, T5, k5, f5⟩ := tab_grew (t := ⟨E1, S1, live, live + 1, ser + 1⟩) (e := ⟨key, val, ser + 1, false⟩) TC.out rfl HR6.out HK6.out
      have TD := hidden T5
      have HKd := hidden (HKc.out.trans k5 (fun i hi h => HFF.out i hi h))
      have HFd := hidden f5
      have hwc := HKc.out.size
      clear T5 k5 f5 HR6 HK6 KX SK g0 g0d g0f b0 b0f b4 k0 k1 k2 v0 v1 v2 hkz hvz hbc
      go_upto_region 16 with fail
      generalize w6.setCell ⟨b, 0, none⟩ (.slice A6 (E1.length + 1) c6) = wd at *
      have b0 := blk_cell TD.out.blk 0
      have b1 := blk_cell TD.out.blk 1
      have b2 := blk_cell TD.out.blk 2
      have b2f := blk_frozen TD.out.blk 2
      simp only [List.getElem?_toArray, List.getElem?_cons_zero, List.getElem?_cons_succ] at b0 b1 b2
      have hbd := blk_lt TD.out.blk
      obtain ⟨g', e', -, hgsd, hc, hcf⟩ := slot_cell TD.out.slots hs0
      simp at e'
      subst e'
      have n4 : gs ≠ b := TD.out.slots.ne TD.out.blk (by decide) gs rfl
      go_region
      go_wp2_with fail
      obtain ⟨T7, k7⟩ := tab_slot (t := ⟨E1 ++ [⟨key, val, ser + 1, false⟩], S1, live, live + 1, ser + 1⟩) TD.out fi ((E1.length : Int) + 1)
      obtain ⟨T8, k8⟩ := tab_num (t := ⟨E1 ++ [⟨key, val, ser + 1, false⟩], S1.set fi ((E1.length : Int) + 1), live, live + 1, ser + 1⟩) T7 (i := 2) (n := live + 1) (t' := ⟨E1 ++ [⟨key, val, ser + 1, false⟩], S1.set fi ((E1.length : Int) + 1), live + 1, live + 1, ser + 1⟩) rfl rfl rfl
      refine hR.out _ _ ⟨F2, m, rfl, hm2, hm30, HM.out, ?_, ?_, ?_⟩
      · rw [HPT.out, hFT.out, HU.out]
        exact ⟨_, _, T8.none ((Keeps.refl _ _).drewN 1)⟩
      · exact (HKd.out.trans (k7.trans k8 (fun _ _ h => h)) (fun i hi h => (HFd.out i h).elim (fun h => HFF.out i hi h) (fun h => by omega))).drew
      · exact fun k hk => (HFd.out k hk).elim (fun h => HFR.out k h) (fun h => .inr (by omega))
  · go_upto_region 15 with fail
    obtain ⟨T3, k3⟩ := tab_num (t := ⟨E1, S1, live, live, ser⟩) TB.out (i := 4) (n := ser + 1) (t' := ⟨E1, S1, live, live, ser + 1⟩) rfl rfl rfl
    have TC := hidden T3
    have KC := hidden k3
    have HU := hidden (show (if S1.getD fi 0 = (0 : Int) then live + 1 else live) = live by rw [HS0.out, if_neg hs00])
    clear T3 k3 b1 b3 b4 b3f b4f hc hcf
    generalize wb.setCell ⟨b, 4, none⟩ (.int .i64 (ser + 1)) = wc at *
    have HCk := hidden (show IsVar wc w.heap.size key from KC.out.heap HBk.out HO1.out.1)
    have HCv := hidden (show IsVar wc (w.heap.size + 1) val from KC.out.heap HBv.out HO1.out.2)
    have HKc := hidden (HKb.out.trans KC.out (fun i hi h => HFF.out i hi h))
    clear TB HBk HBv HKb KC hu1
    have b0 := blk_cell TC.out.blk 0
    have b0f := blk_frozen TC.out.blk 0
    have b4 := blk_cell TC.out.blk 4
    simp only [List.getElem?_toArray, List.getElem?_cons_zero, List.getElem?_cons_succ] at b0 b4
    have hbc := blk_lt TC.out.blk
    obtain ⟨k0, k1, k2, -⟩ := HCk.out.cells
    obtain ⟨v0, v1, v2, -⟩ := HCv.out.cells
    have hkz := blk_lt HCk.out
    have hvz := blk_lt HCv.out
    have HNE := hidden (TC.out.ents.ne TC.out.blk (by decide))
    have HOW := hidden (fun k (e : (Value.slice Ae E1.length ce).ownBlock = some k) => TC.out.ents.2 k e)
    have hbw0 := HBW.out
    have SK := hidden (show ∀ W', Keeps (fun k => (Value.slice Ae E1.length ce).ownBlock = some k) wc W' → (W'.cell? ⟨b, 4, none⟩ = some (.int .i64 (ser + 1)) ∧ W'.cell? ⟨w.heap.size, 0, none⟩ = some (.int .i64 key.k) ∧ W'.cell? ⟨w.heap.size, 1, none⟩ = some (.int .i64 key.n) ∧ W'.cell? ⟨w.heap.size, 2, none⟩ = some (.string key.t) ∧ W'.cell? ⟨w.heap.size + 1, 0, none⟩ = some (.int .i64 val.k) ∧ W'.cell? ⟨w.heap.size + 1, 1, none⟩ = some (.int .i64 val.n) ∧ W'.cell? ⟨w.heap.size + 1, 2, none⟩ = some (.string val.t)) from fun W' hk =>
      ⟨hk.cell b4 (fun e => HNE.out b e rfl), hk.cell k0 (fun e => HO1.out.1 (HOW.out _ e)), hk.cell k1 (fun e => HO1.out.1 (HOW.out _ e)), hk.cell k2 (fun e => HO1.out.1 (HOW.out _ e)), hk.cell v0 (fun e => HO1.out.2 (HOW.out _ e)), hk.cell v1 (fun e => HO1.out.2 (HOW.out _ e)), hk.cell v2 (fun e => HO1.out.2 (HOW.out _ e))⟩)
    refine wp_region_noPanic ?_
    refine wp_region_held_drew (S := (fun w' => w'.cell? ⟨b, 4, none⟩ = some (.int .i64 (ser + 1)) ∧ w'.cell? ⟨w.heap.size, 0, none⟩ = some (.int .i64 key.k) ∧ w'.cell? ⟨w.heap.size, 1, none⟩ = some (.int .i64 key.n) ∧ w'.cell? ⟨w.heap.size, 2, none⟩ = some (.string key.t) ∧ w'.cell? ⟨w.heap.size + 1, 0, none⟩ = some (.int .i64 val.k) ∧ w'.cell? ⟨w.heap.size + 1, 1, none⟩ = some (.int .i64 val.n) ∧ w'.cell? ⟨w.heap.size + 1, 2, none⟩ = some (.string val.t))) (by kernel_rfl) ?_ (fun hHeld => ?_)
    · ((try dsimp only); (first | exact ⟨b4, k0, k1, k2, v0, v1, v2⟩ | exact SK.out _ ((Keeps.refl _ wc).drewN _) | exact SK.out _ (((Keeps.refl _ wc).drewN _).alloc _) | exact SK.out _ KX.out | exact ⟨setcell_keep (SK.out _ KX.out).1 (by simp), setcell_keep (SK.out _ KX.out).2.1 (fun e => by simp at e <;> omega), setcell_keep (SK.out _ KX.out).2.2.1 (fun e => by simp at e <;> omega), setcell_keep (SK.out _ KX.out).2.2.2.1 (fun e => by simp at e <;> omega), setcell_keep (SK.out _ KX.out).2.2.2.2.1 (fun e => by simp at e <;> omega), setcell_keep (SK.out _ KX.out).2.2.2.2.2.1 (fun e => by simp at e <;> omega), setcell_keep (SK.out _ KX.out).2.2.2.2.2.2 (fun e => by simp at e <;> omega)⟩))
    refine wpAnyH_take (i := 0) (v := ?_) rfl (by kernel_rfl) (by kernel_rfl) (by kernel_rfl) (fun _ _ _ h => h) (Or.inl ⟨by rfl, ?_⟩) hHeld ?_
    rotate_left
    · (intro w' hSw; (try dsimp only at hSw); go_simp; (try with_reducible rfl))
    try simp only [Act.put, List.setIfInBounds_toArray, List.set_cons_zero, List.set_cons_succ]
    refine wpAnyH_take (i := 1) (v := ?_) rfl (by kernel_rfl) (by kernel_rfl) (by kernel_rfl) (fun _ _ _ h => h) (Or.inl ⟨by rfl, ?_⟩) hHeld ?_
    rotate_left
    · (intro w' hSw; (try dsimp only at hSw); go_simp; (try with_reducible rfl))
    try simp only [Act.put, List.setIfInBounds_toArray, List.set_cons_zero, List.set_cons_succ]
    refine wpAnyH_take (i := 2) (v := ?_) rfl (by kernel_rfl) (by kernel_rfl) (by kernel_rfl) (fun _ _ _ h => h) (Or.inl ⟨by rfl, ?_⟩) hHeld ?_
    rotate_left
    · (intro w' hSw; (try dsimp only at hSw); go_simp; (try with_reducible rfl))
    try simp only [Act.put, List.setIfInBounds_toArray, List.set_cons_zero, List.set_cons_succ]
    refine wpAnyH_take (i := 3) (v := ?_) rfl (by kernel_rfl) (by kernel_rfl) (by kernel_rfl) (fun _ _ _ h => h) (Or.inl ⟨by rfl, ?_⟩) hHeld ?_
    rotate_left
    · (intro w' hSw; (try dsimp only at hSw); go_simp; (try with_reducible rfl))
    try simp only [Act.put, List.setIfInBounds_toArray, List.set_cons_zero, List.set_cons_succ]
    refine wpAnyH_take (i := 5) (v := ?_) rfl (by kernel_rfl) (by kernel_rfl) (by kernel_rfl) (fun _ _ _ h => h) (Or.inl ⟨by rfl, ?_⟩) hHeld ?_
    rotate_left
    · (intro w' hSw; (try dsimp only at hSw); go_simp; (try with_reducible rfl))
    try simp only [Act.put, List.setIfInBounds_toArray, List.set_cons_zero, List.set_cons_succ]
    refine wpAnyH_take (i := 6) (v := ?_) rfl (by kernel_rfl) (by kernel_rfl) (by kernel_rfl) (fun _ _ _ h => h) (Or.inl ⟨by rfl, ?_⟩) hHeld ?_
    rotate_left
    · (intro w' hSw; (try dsimp only at hSw); go_simp; (try with_reducible rfl))
    try simp only [Act.put, List.setIfInBounds_toArray, List.set_cons_zero, List.set_cons_succ]
    refine wpAnyH_take (i := 7) (v := ?_) rfl (by kernel_rfl) (by kernel_rfl) (by kernel_rfl) (fun _ _ _ h => h) (Or.inl ⟨by rfl, ?_⟩) hHeld ?_
    rotate_left
    · (intro w' hSw; (try dsimp only at hSw); go_simp; (try with_reducible rfl))
    try simp only [Act.put, List.setIfInBounds_toArray, List.set_cons_zero, List.set_cons_succ]
    refine wpAnyH_take (i := 8) (v := ?_) rfl (by kernel_rfl) (by kernel_rfl) (by kernel_rfl) (fun _ _ _ h => h) (Or.inl ⟨by rfl, ?_⟩) hHeld ?_
    rotate_left
    · (intro w' hSw; (try dsimp only at hSw); go_simp; (try with_reducible rfl))
    try simp only [Act.put, List.setIfInBounds_toArray, List.set_cons_zero, List.set_cons_succ]
    refine wpAnyH_take (i := 9) (v := ?_) rfl (by kernel_rfl) (by kernel_rfl) (by kernel_rfl) (fun _ _ _ h => h) (Or.inl ⟨by rfl, ?_⟩) hHeld ?_
    rotate_left
    · (intro w' hSw; (try dsimp only at hSw); go_simp; (try with_reducible rfl))
    try simp only [Act.put, List.setIfInBounds_toArray, List.set_cons_zero, List.set_cons_succ]
    refine wpAnyH_take (i := 10) (v := ?_) rfl (by kernel_rfl) (by kernel_rfl) (by kernel_rfl) (fun _ _ _ h => h) (Or.inl ⟨by rfl, ?_⟩) hHeld ?_
    rotate_left
    · (intro w' hSw; (try dsimp only at hSw); go_simp; (try with_reducible rfl))
    try simp only [Act.put, List.setIfInBounds_toArray, List.set_cons_zero, List.set_cons_succ]
    refine wpAnyH_take (i := 11) (v := ?_) rfl (by kernel_rfl) (by kernel_rfl) (by kernel_rfl) (fun _ _ _ h => h) (Or.inl ⟨by rfl, ?_⟩) hHeld ?_
    rotate_left
    · (intro w' hSw; (try dsimp only at hSw); go_simp; (try with_reducible rfl))
    try simp only [Act.put, List.setIfInBounds_toArray, List.set_cons_zero, List.set_cons_succ]
    refine wpAnyH_ready (rs := [4, 12]) (by kernel_rfl) (by simp) ?_
    refine (AllReadyH.cons rfl (fun K hK => ?_) (AllReadyH.cons rfl (fun K hK => ?_) AllReadyH.nil))
    go_simp
    refine hK.out _ _ ?_ (fun hH2 => ?_)
    · ((try dsimp only); (first | exact ⟨b4, k0, k1, k2, v0, v1, v2⟩ | exact SK.out _ ((Keeps.refl _ wc).drewN _) | exact SK.out _ (((Keeps.refl _ wc).drewN _).alloc _) | exact SK.out _ KX.out | exact ⟨setcell_keep (SK.out _ KX.out).1 (by simp), setcell_keep (SK.out _ KX.out).2.1 (fun e => by simp at e <;> omega), setcell_keep (SK.out _ KX.out).2.2.1 (fun e => by simp at e <;> omega), setcell_keep (SK.out _ KX.out).2.2.2.1 (fun e => by simp at e <;> omega), setcell_keep (SK.out _ KX.out).2.2.2.2.1 (fun e => by simp at e <;> omega), setcell_keep (SK.out _ KX.out).2.2.2.2.2.1 (fun e => by simp at e <;> omega), setcell_keep (SK.out _ KX.out).2.2.2.2.2.2 (fun e => by simp at e <;> omega)⟩))
    clear hK K hHeld
    have hHeld := hH2
    clear hH2
    try simp only [Act.put, List.setIfInBounds_toArray, List.set_cons_zero, List.set_cons_succ]
    refine wpAnyH_ready (rs := [12]) (by kernel_rfl) (by simp) ?_
    refine AllReadyH.cons rfl (fun K hK => ?_) AllReadyH.nil
    go_simp
    refine hK.out _ _ ?_ (fun hH2 => ?_)
    · ((try dsimp only); (first | exact ⟨b4, k0, k1, k2, v0, v1, v2⟩ | exact SK.out _ ((Keeps.refl _ wc).drewN _) | exact SK.out _ (((Keeps.refl _ wc).drewN _).alloc _) | exact SK.out _ KX.out | exact ⟨setcell_keep (SK.out _ KX.out).1 (by simp), setcell_keep (SK.out _ KX.out).2.1 (fun e => by simp at e <;> omega), setcell_keep (SK.out _ KX.out).2.2.1 (fun e => by simp at e <;> omega), setcell_keep (SK.out _ KX.out).2.2.2.1 (fun e => by simp at e <;> omega), setcell_keep (SK.out _ KX.out).2.2.2.2.1 (fun e => by simp at e <;> omega), setcell_keep (SK.out _ KX.out).2.2.2.2.2.1 (fun e => by simp at e <;> omega), setcell_keep (SK.out _ KX.out).2.2.2.2.2.2 (fun e => by simp at e <;> omega)⟩))
    clear hK K hHeld
    have hHeld := hH2
    clear hH2
    try simp only [Act.put, List.setIfInBounds_toArray, List.set_cons_zero, List.set_cons_succ]
    refine wpAnyH_ready (rs := [13]) (by kernel_rfl) (by simp) ?_
    refine AllReadyH.cons rfl (fun K hK => ?_) AllReadyH.nil
    (first | (refine app_step rfl F1 _ _ _ _ _ _ 8 80 rfl Try.underlying108 info_ent rfl (by decide) (.slice Ae E1.length ce) E1.length (flatE E1) rfl (TC.out.ents.alloc _).drew _ rfl 1 _ (ent_src wc ⟨key, val, ser + 1, false⟩ (by first | rfl | simp)) (by omega) (by omega) ?_; intro A6 c6 w6 hR6 hK6; have HR6 := hidden hR6; have HK6 := hidden (Keeps.undrewn hK6); have KX := hidden ((((Keeps.refl (fun k => (Value.slice Ae E1.length ce).ownBlock = some k) wc).alloc _).drew).trans hK6 (fun _ _ h => h)); have g0 := KX.out.cell b0 (fun e => HNE.out b e rfl); have g0d := KX.out.heap TC.out.blk (fun e => HNE.out b e rfl); have g0f := blk_frozen g0d 0; clear hR6 hK6))
    refine hK.out _ _ ?_ (fun hH2 => ?_)
    · ((try dsimp only); (first | exact ⟨b4, k0, k1, k2, v0, v1, v2⟩ | exact SK.out _ ((Keeps.refl _ wc).drewN _) | exact SK.out _ (((Keeps.refl _ wc).drewN _).alloc _) | exact SK.out _ KX.out | exact ⟨setcell_keep (SK.out _ KX.out).1 (by simp), setcell_keep (SK.out _ KX.out).2.1 (fun e => by simp at e <;> omega), setcell_keep (SK.out _ KX.out).2.2.1 (fun e => by simp at e <;> omega), setcell_keep (SK.out _ KX.out).2.2.2.1 (fun e => by simp at e <;> omega), setcell_keep (SK.out _ KX.out).2.2.2.2.1 (fun e => by simp at e <;> omega), setcell_keep (SK.out _ KX.out).2.2.2.2.2.1 (fun e => by simp at e <;> omega), setcell_keep (SK.out _ KX.out).2.2.2.2.2.2 (fun e => by simp at e <;> omega)⟩))
    clear hK K hHeld
    have hHeld := hH2
    clear hH2
    try simp only [Act.put, List.setIfInBounds_toArray, List.set_cons_zero, List.set_cons_succ]
    refine wpAnyH_take (i := 14) (v := ?_) rfl (by kernel_rfl) (by kernel_rfl) (by kernel_rfl) (fun _ _ _ h => h) (Or.inl ⟨by rfl, ?_⟩) hHeld ?_
    rotate_left
    · (intro w' hSw; (try dsimp only at hSw); go_simp; (try with_reducible rfl))
    try simp only [Act.put, List.setIfInBounds_toArray, List.set_cons_zero, List.set_cons_succ]
    refine wpAnyH_take (i := 15) (v := ?_) rfl (by kernel_rfl) (by kernel_rfl) (by kernel_rfl) (fun _ _ _ h => h) (Or.inl ⟨by rfl, ?_⟩) hHeld ?_
    rotate_left
    · (intro w' hSw; (try dsimp only at hSw); go_simp; (try with_reducible rfl))
    try simp only [Act.put, List.setIfInBounds_toArray, List.set_cons_zero, List.set_cons_succ]
    refine wpAnyH_ready (rs := [16]) (by kernel_rfl) (by simp) ?_
    refine AllReadyH.cons rfl (fun K hK => ?_) AllReadyH.nil
    go_simp
    refine hK.out _ _ ?_ (fun hH2 => ?_)
    · ((try dsimp only); (first | exact ⟨b4, k0, k1, k2, v0, v1, v2⟩ | exact SK.out _ ((Keeps.refl _ wc).drewN _) | exact SK.out _ (((Keeps.refl _ wc).drewN _).alloc _) | exact SK.out _ KX.out | exact ⟨setcell_keep (SK.out _ KX.out).1 (by simp), setcell_keep (SK.out _ KX.out).2.1 (fun e => by simp at e <;> omega), setcell_keep (SK.out _ KX.out).2.2.1 (fun e => by simp at e <;> omega), setcell_keep (SK.out _ KX.out).2.2.2.1 (fun e => by simp at e <;> omega), setcell_keep (SK.out _ KX.out).2.2.2.2.1 (fun e => by simp at e <;> omega), setcell_keep (SK.out _ KX.out).2.2.2.2.2.1 (fun e => by simp at e <;> omega), setcell_keep (SK.out _ KX.out).2.2.2.2.2.2 (fun e => by simp at e <;> omega)⟩))
    clear hK K hHeld
    have hHeld := hH2
    clear hH2
    try simp only [Act.put, List.setIfInBounds_toArray, List.set_cons_zero, List.set_cons_succ]
    refine wpAnyH_done (by kernel_rfl) ?_ _
    refine NoPanic.normal ?_
    rotate_left
    go_simp
    refine hK.out _ _ ?_ (fun hH2 => ?_)
    · ((try dsimp only); (first | exact ⟨b4, k0, k1, k2, v0, v1, v2⟩ | exact SK.out _ ((Keeps.refl _ wc).drewN _) | exact SK.out _ (((Keeps.refl _ wc).drewN _).alloc _) | exact SK.out _ KX.out | exact ⟨setcell_keep (SK.out _ KX.out).1 (by simp), setcell_keep (SK.out _ KX.out).2.1 (fun e => by simp at e <;> omega), setcell_keep (SK.out _ KX.out).2.2.1 (fun e => by simp at e <;> omega), setcell_keep (SK.out _ KX.out).2.2.2.1 (fun e => by simp at e <;> omega), setcell_keep (SK.out _ KX.out).2.2.2.2.1 (fun e => by simp at e <;> omega), setcell_keep (SK.out _ KX.out).2.2.2.2.2.1 (fun e => by simp at e <;> omega), setcell_keep (SK.out _ KX.out).2.2.2.2.2.2 (fun e => by simp at e <;> omega)⟩))
    clear hK K hHeld
    have hHeld := hH2
    clear hH2
    try simp only [Act.put, List.setIfInBounds_toArray, List.set_cons_zero, List.set_cons_succ]
    refine wpAnyH_ready (rs := [4]) (by kernel_rfl) (by simp) ?_
    refine AllReadyH.cons rfl (fun K hK => ?_) AllReadyH.nil
    go_simp
    refine hK.out _ _ ?_ (fun hH2 => ?_)
    · ((try dsimp only); (first | exact ⟨b4, k0, k1, k2, v0, v1, v2⟩ | exact SK.out _ ((Keeps.refl _ wc).drewN _) | exact SK.out _ (((Keeps.refl _ wc).drewN _).alloc _) | exact SK.out _ KX.out | exact ⟨setcell_keep (SK.out _ KX.out).1 (by simp), setcell_keep (SK.out _ KX.out).2.1 (fun e => by simp at e <;> omega), setcell_keep (SK.out _ KX.out).2.2.1 (fun e => by simp at e <;> omega), setcell_keep (SK.out _ KX.out).2.2.2.1 (fun e => by simp at e <;> omega), setcell_keep (SK.out _ KX.out).2.2.2.2.1 (fun e => by simp at e <;> omega), setcell_keep (SK.out _ KX.out).2.2.2.2.2.1 (fun e => by simp at e <;> omega), setcell_keep (SK.out _ KX.out).2.2.2.2.2.2 (fun e => by simp at e <;> omega)⟩))
    clear hK K hHeld
    have hHeld := hH2
    clear hH2
    try simp only [Act.put, List.setIfInBounds_toArray, List.set_cons_zero, List.set_cons_succ]
    refine wpAnyH_ready (rs := [13]) (by kernel_rfl) (by simp) ?_
    refine AllReadyH.cons rfl (fun K hK => ?_) AllReadyH.nil
    (first | (refine app_step rfl F1 _ _ _ _ _ _ 8 80 rfl Try.underlying108 info_ent rfl (by decide) (.slice Ae E1.length ce) E1.length (flatE E1) rfl (TC.out.ents.alloc _).drew _ rfl 1 _ (ent_src wc ⟨key, val, ser + 1, false⟩ (by first | rfl | simp)) (by omega) (by omega) ?_; intro A6 c6 w6 hR6 hK6; have HR6 := hidden hR6; have HK6 := hidden (Keeps.undrewn hK6); have KX := hidden ((((Keeps.refl (fun k => (Value.slice Ae E1.length ce).ownBlock = some k) wc).alloc _).drew).trans hK6 (fun _ _ h => h)); have g0 := KX.out.cell b0 (fun e => HNE.out b e rfl); have g0d := KX.out.heap TC.out.blk (fun e => HNE.out b e rfl); have g0f := blk_frozen g0d 0; clear hR6 hK6))
    refine hK.out _ _ ?_ (fun hH2 => ?_)
    · ((try dsimp only); (first | exact ⟨b4, k0, k1, k2, v0, v1, v2⟩ | exact SK.out _ ((Keeps.refl _ wc).drewN _) | exact SK.out _ (((Keeps.refl _ wc).drewN _).alloc _) | exact SK.out _ KX.out | exact ⟨setcell_keep (SK.out _ KX.out).1 (by simp), setcell_keep (SK.out _ KX.out).2.1 (fun e => by simp at e <;> omega), setcell_keep (SK.out _ KX.out).2.2.1 (fun e => by simp at e <;> omega), setcell_keep (SK.out _ KX.out).2.2.2.1 (fun e => by simp at e <;> omega), setcell_keep (SK.out _ KX.out).2.2.2.2.1 (fun e => by simp at e <;> omega), setcell_keep (SK.out _ KX.out).2.2.2.2.2.1 (fun e => by simp at e <;> omega), setcell_keep (SK.out _ KX.out).2.2.2.2.2.2 (fun e => by simp at e <;> omega)⟩))
    clear hK K hHeld
    have hHeld := hH2
    clear hH2
    try simp only [Act.put, List.setIfInBounds_toArray, List.set_cons_zero, List.set_cons_succ]
    refine wpAnyH_take (i := 14) (v := ?_) rfl (by kernel_rfl) (by kernel_rfl) (by kernel_rfl) (fun _ _ _ h => h) (Or.inl ⟨by rfl, ?_⟩) hHeld ?_
    rotate_left
    · (intro w' hSw; (try dsimp only at hSw); go_simp; (try with_reducible rfl))
    try simp only [Act.put, List.setIfInBounds_toArray, List.set_cons_zero, List.set_cons_succ]
    refine wpAnyH_take (i := 15) (v := ?_) rfl (by kernel_rfl) (by kernel_rfl) (by kernel_rfl) (fun _ _ _ h => h) (Or.inl ⟨by rfl, ?_⟩) hHeld ?_
    rotate_left
    · (intro w' hSw; (try dsimp only at hSw); go_simp; (try with_reducible rfl))
    try simp only [Act.put, List.setIfInBounds_toArray, List.set_cons_zero, List.set_cons_succ]
    refine wpAnyH_ready (rs := [16]) (by kernel_rfl) (by simp) ?_
    refine AllReadyH.cons rfl (fun K hK => ?_) AllReadyH.nil
    go_simp
    refine hK.out _ _ ?_ (fun hH2 => ?_)
    · ((try dsimp only); (first | exact ⟨b4, k0, k1, k2, v0, v1, v2⟩ | exact SK.out _ ((Keeps.refl _ wc).drewN _) | exact SK.out _ (((Keeps.refl _ wc).drewN _).alloc _) | exact SK.out _ KX.out | exact ⟨setcell_keep (SK.out _ KX.out).1 (by simp), setcell_keep (SK.out _ KX.out).2.1 (fun e => by simp at e <;> omega), setcell_keep (SK.out _ KX.out).2.2.1 (fun e => by simp at e <;> omega), setcell_keep (SK.out _ KX.out).2.2.2.1 (fun e => by simp at e <;> omega), setcell_keep (SK.out _ KX.out).2.2.2.2.1 (fun e => by simp at e <;> omega), setcell_keep (SK.out _ KX.out).2.2.2.2.2.1 (fun e => by simp at e <;> omega), setcell_keep (SK.out _ KX.out).2.2.2.2.2.2 (fun e => by simp at e <;> omega)⟩))
    clear hK K hHeld
    have hHeld := hH2
    clear hH2
    try simp only [Act.put, List.setIfInBounds_toArray, List.set_cons_zero, List.set_cons_succ]
    refine wpAnyH_done (by kernel_rfl) ?_ _
    refine NoPanic.normal ?_
    rotate_left
    all_goals
      obtain ⟨F2, T5, k5, f5⟩ := tab_grew (t := ⟨E1, S1, live, live, ser + 1⟩) (e := ⟨key, val, ser + 1, false⟩) TC.out rfl HR6.out HK6.out
      have TD := hidden T5
      have HKd := hidden (HKc.out.trans k5 (fun i hi h => HFF.out i hi h))
      have HFd := hidden f5
      have hwc := HKc.out.size
      clear T5 k5 f5 HR6 HK6 KX SK g0 g0d g0f b0 b0f b4 k0 k1 k2 v0 v1 v2 hkz hvz hbc
      go_upto_region 16 with fail
      generalize w6.setCell ⟨b, 0, none⟩ (.slice A6 (E1.length + 1) c6) = wd at *
      have b0 := blk_cell TD.out.blk 0
      have b1 := blk_cell TD.out.blk 1
      have b2 := blk_cell TD.out.blk 2
      have b2f := blk_frozen TD.out.blk 2
      simp only [List.getElem?_toArray, List.getElem?_cons_zero, List.getElem?_cons_succ] at b0 b1 b2
      have hbd := blk_lt TD.out.blk
      obtain ⟨g', e', -, hgsd, hc, hcf⟩ := slot_cell TD.out.slots hs0
      simp at e'
      subst e'
      have n4 : gs ≠ b := TD.out.slots.ne TD.out.blk (by decide) gs rfl
      go_region
      go_wp2_with fail
      obtain ⟨T7, k7⟩ := tab_slot (t := ⟨E1 ++ [⟨key, val, ser + 1, false⟩], S1, live, live, ser + 1⟩) TD.out fi ((E1.length : Int) + 1)
      obtain ⟨T8, k8⟩ := tab_num (t := ⟨E1 ++ [⟨key, val, ser + 1, false⟩], S1.set fi ((E1.length : Int) + 1), live, live, ser + 1⟩) T7 (i := 2) (n := live + 1) (t' := ⟨E1 ++ [⟨key, val, ser + 1, false⟩], S1.set fi ((E1.length : Int) + 1), live + 1, live, ser + 1⟩) rfl rfl rfl
      refine hR.out _ _ ⟨F2, m, rfl, hm2, hm30, HM.out, ?_, ?_, ?_⟩
      · rw [HPT.out, hFT.out, HU.out]
        exact ⟨_, _, T8.none ((Keeps.refl _ _).drewN 1)⟩
      · exact (HKd.out.trans (k7.trans k8 (fun _ _ h => h)) (fun i hi h => (HFd.out i h).elim (fun h => HFF.out i hi h) (fun h => by omega))).drew
      · exact fun k hk => (HFd.out k hk).elim (fun h => HFR.out k h) (fun h => .inr (by omega))
end Go.Proofs.Ytfdfjogoiagnkaa
namespace Go.Proofs.Ytfdfjogoiagnkaa
open Go.RowKit
set_option maxRecDepth 100000

theorem table_Set_none (w : World) (F : Nat → Prop) (b : Nat) (t : Tb) (key val : V) (h : IsTab w F b t) (hs : t.safe) (hk : key.t.size ≤ 140737488351232) (hf : (findT t key).2 = false) :
    Calls Try.prog 66 #[.pointer (some ⟨b, 0, none⟩), key.val, val.val] w fun e w' => e = .returned (.int .i64 3) ∧ Keeps (fun _ => False) w w' := by
  have c1 := hidden (fun (W : World) (hK : Keeps (fun _ => False) w W) => table_Has W F b t key (h.none hK) hs hk)
  rw [hf] at c1
  clear h hf
  unfold V.val at *
  refine post_gen fun R hR => ?_
  go_enter Try.func66, Try.ntmps66
  go_wp2_with fail
  refine (c1.out _ (((Keeps.refl _ w).alloc _).alloc _)).mono ?_
  rintro e w1 ⟨rfl, hK⟩
  have HK := hidden ((((Keeps.refl (fun _ => False) w).alloc _).alloc _).trans hK (fun _ _ h => h))
  clear hK
  go_wp2_with fail
  exact hR.out _ _ ⟨rfl, HK.out⟩
theorem table_Set_there (w : World) (F : Nat → Prop) (b : Nat) (t : Tb) (key val : V) (h : IsTab w F b t) (hs : t.safe) (hk : key.t.size ≤ 140737488351232) (h0 : key.k ≠ 0) (q : Nat) (hq : q < t.E.length) (hf : (findT t key).2 = true) (hS : t.S[(findT t key).1]? = some ((q : Int) + 1)) :
    Calls Try.prog 66 #[.pointer (some ⟨b, 0, none⟩), key.val, val.val] w fun e w' => e = .returned (.int .i64 0) ∧ IsTab w' F b { t with E := t.E.set q { t.E[q] with val := val } } ∧ Keeps F w w' := by
  have c1 := hidden (fun (W : World) (hK : Keeps (fun _ => False) w W) => table_Has W F b t key (h.none hK) hs hk)
  have c2 := hidden (fun (W : World) (hK : Keeps (fun _ => False) w W) => table_Put_there W F b t key val (h.none hK) hs hk h0 q hq hf hS)
  rw [hf] at c1
  have HBK := hidden (show IsVar ((w.alloc (.cells #[.int .i64 key.k, .int .i64 key.n, .string key.t] 26)).alloc (.cells #[.int .i64 val.k, .int .i64 val.n, .string val.t] 26)) w.heap.size key from blk_alloc (blk_new w _) _)
  have HBV := hidden (show IsVar ((w.alloc (.cells #[.int .i64 key.k, .int .i64 key.n, .string key.t] 26)).alloc (.cells #[.int .i64 val.k, .int .i64 val.n, .string val.t] 26)) (w.heap.size + 1) val from new2t w _ _)
  clear h hf hS
  unfold V.val at *
  refine post_gen fun R hR => ?_
  go_enter Try.func66, Try.ntmps66
  go_wp2_with fail
  refine (c1.out _ (((Keeps.refl _ w).alloc _).alloc _)).mono ?_
  rintro e w1 ⟨rfl, hK⟩
  have HK := hidden ((((Keeps.refl (fun _ => False) w).alloc _).alloc _).trans hK (fun _ _ h => h))
  have VK := hidden (show IsVar w1 w.heap.size key from hK.heap HBK.out (fun h => h))
  have VV := hidden (show IsVar w1 (w.heap.size + 1) val from hK.heap HBV.out (fun h => h))
  obtain ⟨k0, k1, k2, -⟩ := VK.out.cells
  obtain ⟨v0, v1, v2, -⟩ := VV.out.cells
  have hkz := blk_lt VK.out
  have hvz := blk_lt VV.out
  clear hK
  go_wp2_with fail
  refine (c2.out _ HK.out).mono ?_
  rintro e w2 ⟨rfl, hT, hK⟩
  have HT := hidden hT
  have HK2 := hidden ((HK.out.mono (T := F) (fun _ _ h => h.elim)).trans hK (fun _ _ h => h))
  clear hT hK
  go_wp2_with fail
  exact hR.out _ _ ⟨rfl, HT.out, HK2.out⟩
end Go.Proofs.Ytfdfjogoiagnkaa
namespace Go.Proofs.Ytfdfjogoiagnkaa
open Go.RowKit
set_option maxRecDepth 100000

theorem next_one (w : World) (F : Nat → Prop) (b bt bc : Nat) (t : Tb) (c : Int) (i : Nat) (h : IsTab w F b t) (hbt : w.cell? ⟨bt, 0, none⟩ = some (.pointer (some ⟨b, 0, none⟩))) (hbc : w.cell? ⟨bc, 0, none⟩ = some (.int .i64 c)) (hi : i < t.E.length) :
    Calls Try.prog 73 #[.int .i64 i, .pointer (some ⟨bt, 0, none⟩), .pointer (some ⟨bc, 0, none⟩)] w fun e w' => e = .returned (.bool (decide (c < t.E[i].ser))) ∧ Drew w w' := by
  obtain ⟨ve, vs, hT⟩ := h
  obtain ⟨Ae, ce, rfl⟩ := hT.ents.form
  obtain ⟨ge, oe, rfl, ⟨-, -, -, -, -, -, e6, -⟩⟩ := Ents.own hT.ents.1 i t.E[i] (List.getElem?_eq_getElem hi)
  have b0 := blk_cell hT.blk 0
  simp only [List.getElem?_toArray, List.getElem?_cons_zero, List.getElem?_cons_succ] at b0
  have h1 := World.block_lt_of_cell? w _ hbt
  have hi2 : (i : Int) < (t.E.length : Int) := by omega
  clear hT
  generalize t.E[i] = x at *
  refine post_gen fun R hR => ?_
  go_enter Try.func73, Try.ntmps73
  go_wp2_with fail
  go_quiet (fail)
  go_wp2_with fail
  exact hR.out _ _ ⟨rfl, ⟨nq, rfl⟩⟩
set_option maxHeartbeats 1000000 in
theorem search_next (w : World) (F : Nat → Prop) (b bt bc : Nat) (t : Tb) (c : Int) (h : IsTab w F b t) (hbt : w.cell? ⟨bt, 0, none⟩ = some (.pointer (some ⟨b, 0, none⟩))) (hbc : w.cell? ⟨bc, 0, none⟩ = some (.int .i64 c)) (hl : t.E.length ≤ 1073741824) (hso : ∀ (i j : Nat) (hij : i < j) (hj : j < t.E.length), t.E[i].ser < t.E[j].ser) :
    Calls Try.prog 72 #[.int .i64 t.E.length, .func (.func 73) #[] #[.pointer (some ⟨bt, 0, none⟩), .pointer (some ⟨bc, 0, none⟩)]] w fun e w' => ∃ i : Nat, e = .returned (.int .i64 i) ∧ i ≤ t.E.length ∧ (∀ (j : Nat) (hj : j < t.E.length), j < i → t.E[j].ser ≤ c) ∧ (∀ (j : Nat) (hj : j < t.E.length), i ≤ j → c < t.E[j].ser) ∧ Drew w w' := by
  have key := hidden (fun (W : World) (i : Nat) (hi : i < t.E.length) (hd : Drew w W) => next_one W F b bt bc t c i (h.none (hd.keeps _)) ((hd.keeps (fun _ => False)).cell hbt (fun h => h)) ((hd.keeps (fun _ => False)).cell hbc (fun h => h)) hi)
  have HSO := hidden hso
  clear h hbt hbc hso
  refine post_gen fun R hR => ?_
  go_enter Try.func72, Try.ntmps72
  go_wp2_with fail
  go_loopw [5, 6] (fun i j wr => ∃ (p q : Nat), p ≤ q ∧ q ≤ t.E.length ∧ i = .int .i64 p ∧ j = .int .i64 q ∧ Hid (∀ (k : Nat) (hk : k < t.E.length), k < p → t.E[k].ser ≤ c) ∧ Hid (∀ (k : Nat) (hk : k < t.E.length), q ≤ k → c < t.E[k].ser) ∧ Drew w wr) (fun i j _ => (intOf j).toNat - (intOf i).toNat)
  case atStart => exact ⟨0, t.E.length, Nat.zero_le _, Nat.le_refl _, rfl, rfl, hidden (fun k hk h => absurd h (by omega)), hidden (fun k hk h => absurd h (by omega)), Drew.refl _⟩
  case round =>
    obtain ⟨p, q, hpq, hq, rfl, rfl, HL, HG, hD⟩ := hrel
    have HD := hidden hD
    by_cases hlt : p < q
    · obtain ⟨m, hm⟩ : ∃ m : Nat, m = (p + q) / 2 := ⟨_, rfl⟩
      have hm1 : p ≤ m := by omega
      have hm2 : m < q := by omega
      have hme : m < t.E.length := by omega
      have w0 : IntKind.i64.wrap ((p : Int) + (q : Int)) = (p : Int) + (q : Int) := by rw [IntKind.wrap_i64]; omega
      have w1 : IntKind.u64.wrap ((p : Int) + (q : Int)) = (p : Int) + (q : Int) := by rw [IntKind.wrap_u64]; omega
      have w2 : ((p : Int) + (q : Int)) / 2 = (m : Int) := by omega
      have w3 : IntKind.i64.wrap (m : Int) = (m : Int) := by rw [IntKind.wrap_i64]; omega
      have w4 : IntKind.i64.wrap ((m : Int) + 1) = (m : Int) + 1 := by rw [IntKind.wrap_i64]; omega
      have w5 : (p : Int) < (q : Int) := by omega
      have kk := hidden (fun W hd => key.out W m hme hd)
      have HM := hidden (fun k (hk : k < t.E.length) => HSO.out k m)
      clear hm hD
      by_cases hc : c < t.E[m].ser
      · have hdc : decide (c < t.E[m].ser) = true := decide_eq_true hc
        rw [hdc] at kk
        have HC := hidden hc
        clear hdc hc
        go_wp2_with fail
        refine (kk.out _ HD.out).mono ?_
        rintro e w9 ⟨rfl, hD9⟩
        have HD9 := hidden (HD.out.trans hD9)
        clear hD9 kk
        go_wp2_with fail
        go_roundw
        case rel =>
          refine ⟨p, m, hm1, by omega, rfl, by go_num, HL, hidden (fun k hk h => ?_), HD9.out⟩
          by_cases hkm : k = m
          · subst hkm; exact HC.out
          · have := HSO.out m k (by omega) hk; have := HC.out; omega
        case measure => simp [intOf]; omega
      · have hdc : decide (c < t.E[m].ser) = false := decide_eq_false hc
        rw [hdc] at kk
        have HC := hidden hc
        clear hdc hc
        go_wp2_with fail
        refine (kk.out _ HD.out).mono ?_
        rintro e w9 ⟨rfl, hD9⟩
        have HD9 := hidden (HD.out.trans hD9)
        clear hD9 kk
        go_wp2_with fail
        go_roundw
        case rel =>
          refine ⟨m + 1, q, hm2, hq, by go_num, rfl, hidden (fun k hk h => ?_), HG, HD9.out⟩
          have hc := HC.out
          by_cases hkm : k = m
          · subst hkm; omega
          · have := HSO.out k m (by omega) hme; omega
        case measure => simp [intOf]; omega
    · obtain rfl : p = q := by omega
      go_wp2_with fail
      exact hR.out _ _ ⟨p, rfl, hq, HL.out, HG.out, HD.out⟩
end Go.Proofs.Ytfdfjogoiagnkaa
