/- Texts: rows of strings that are read, rows of strings and bytes of the call's own. -/
import Derived.Test.YtpaefeknbpfpmaaBase
import Derived.Test.YtpaefeknbpfpmaaOpen
import Derived.Test.YtpaefeknbpfpmaaProg
namespace Go.Proofs.Ytpaefeknbpfpmaa
open Go.RowKit

/-- strings that stand in a row that is read -/
def Strs (w : World) (A : Option Addr) (ss : List ByteArray) : Prop := ∀ i s, ss[i]? = some s → ∃ b o, A = some ⟨b, o, none⟩ ∧ w.cell? ⟨b, o + i, none⟩ = some (.string s)

/-- Texts, one behind the other. -/
def cat (ss : List ByteArray) : List UInt8 := ss.flatMap fun s => s.data.toList
theorem cat_append (ss ts : List ByteArray) : cat (ss ++ ts) = cat ss ++ cat ts := by simp [cat]
theorem cat_take {ss : List ByteArray} {k : Nat} (hk : k < ss.length) : (cat (ss.take (k + 1))).length = (cat (ss.take k)).length + ss[k].size := by
  rw [List.take_succ_eq_append_getElem hk, cat_append]
  simp [cat]
theorem cat_take_le (ss : List ByteArray) (k : Nat) : (cat (ss.take k)).length ≤ (cat ss).length := by
  have := congrArg (fun l => (cat l).length) (List.take_append_drop k ss)
  simp only [cat_append, List.length_append] at this
  omega
theorem Strs.keeps {w w1 : World} {S : Nat → Prop} {A : Option Addr} {ss : List ByteArray} (h : Strs w A ss) (hk : Keeps S w w1) (hn : ∀ b o, A = some ⟨b, o, none⟩ → ¬ S b) : Strs w1 A ss := fun i s hi => by
  obtain ⟨b, o, rfl, hc⟩ := h i s hi
  exact ⟨b, o, rfl, hk.cell hc (hn b o rfl)⟩

theorem extract_cells (s : ByteArray) (n : Nat) : Go.byteCells (s.extract 0 n) = byteCells (s.data.toList.take n) := by
  simp [Go.byteCells, byteCells]
theorem info_uint8 : (Try.prog.info? 5).map (fun i => (i.zero, i.size, i.bytes)) = some (some (.int .u8 0), 1, 1) := by kernel_rfl

def strCellsOf (l : List ByteArray) : List Value := l.map .string
theorem strCellsOf_length (l : List ByteArray) : (strCellsOf l).length = l.length := by simp [strCellsOf]
theorem info_string : (Try.prog.info? 9).map (fun i => (i.zero, i.size, i.bytes)) = some (some (.string ⟨#[]⟩), 1, 16) := by kernel_rfl

theorem strs_of {w : World} {A : Option Addr} {ss : List ByteArray} (h : Reads 1 RStr w A ss) : Strs w A ss := fun i s hi => by
  obtain ⟨b, o, cs, rfl, h1, h2, h3⟩ := h i s hi
  refine ⟨b, o, rfl, ?_⟩
  simp only [RStr] at h2
  subst h2
  simpa using h3 0 _ rfl
theorem Strs.nil (w : World) (A : Option Addr) : Strs w A [] := fun i s h => by simp at h
theorem add_at (g o j : Nat) : (⟨g, o, none⟩ : Addr).add j = ⟨g, o + j, none⟩ := by unfold Addr.add; split <;> simp_all
theorem Strs.src {P : Program} {w : World} {A : Option Addr} {ss : List ByteArray} {c : Nat} {tx e : TypeId} (h : Strs w A ss) (hk : P.underlying tx = some (.slice e)) : Src P 1 tx (.slice A ss.length c) ss.length (strCellsOf ss) w := by
  cases hs : ss with
  | nil =>
    cases A with
    | none => exact Src.ofNil w hk c
    | some a => exact Src.ofSlice w hk a 0 c [] rfl (by simp) (by simp)
  | cons s l =>
    obtain ⟨b, o, rfl, _⟩ := h 0 s (by simp [hs])
    rw [← hs]
    refine Src.ofSlice w hk _ _ c _ (by simp [strCellsOf]) ?_ ?_
    · intro j u hu
      simp only [strCellsOf, List.getElem?_map, Option.map_eq_some_iff] at hu
      obtain ⟨s', h1, rfl⟩ := hu
      obtain ⟨b', o', he, hc⟩ := h j s' h1
      simp at he
      obtain ⟨rfl, rfl⟩ := he
      rw [add_at]; exact hc
    · intro u hu
      simp only [strCellsOf, List.mem_map] at hu
      obtain ⟨_, _, rfl⟩ := hu
      rfl
theorem Strs.lit (w : World) (ss : List ByteArray) (t : TypeId) : Strs (w.alloc (.cells (ss.map Value.string).toArray t)) (some ⟨w.heap.size, 0, none⟩) ss := fun i s h => ⟨_, _, rfl, by
  rw [blk_cell (blk_new w _)]
  simp [h]⟩
theorem Strs.lit' (w : World) (ss : List ByteArray) (t : TypeId) {n : Nat} (hn : n = w.heap.size) : Strs (w.alloc (.cells (ss.map Value.string).toArray t)) (some ⟨n, 0, none⟩) ss := hn ▸ Strs.lit w ss t
theorem Strs.own {w : World} {base e n c : Nat} {A : Option Addr} {ss : List ByteArray} (h : w.ownsRow base e 1 (.slice A n c) n (strCellsOf ss)) : Strs w A ss := fun i s hi => by
  rcases h.2 with ⟨h1, h2⟩ | ⟨g, cap, cur, h1, _⟩
  · have := h.1
    simp [strCellsOf, h2] at this
    simp [this] at hi
  · simp at h1
    obtain ⟨rfl, rfl⟩ := h1
    refine ⟨g, 0, rfl, ?_⟩
    have := h.cells (g := g) rfl i (.string s) (by simp [strCellsOf, hi])
    rwa [add_at] at this

theorem lit_append {w w' : World} {S : Nat → Prop} {ss : List ByteArray} {t : TypeId} (hk : Keeps S (w.alloc (.cells (ss.map Value.string).toArray t)) w') (hn : ¬ S w.heap.size) : Strs w' (some ⟨w.heap.size, 0, none⟩) ss :=
  (Strs.lit w ss t).keeps hk (fun b o h => by simp at h; rw [← h.1]; exact hn)

/-- One value, newly laid, as what is appended. -/
theorem src_one {P : Program} (w : World) (x : Value) (t : TypeId) {tx e : TypeId} (hk : P.underlying tx = some (.slice e)) (h1 : x.oneCell' = true) : Src P 1 tx (.slice (some ⟨w.heap.size, 0, none⟩) 1 1) 1 [x] (w.alloc (.cells #[x] t)) := by
  refine Src.ofSlice _ hk _ _ 1 _ rfl ?_ ?_
  · intro j u hu
    cases j with
    | zero => simp at hu; subst hu; rw [add_at, blk_cell (blk_new w _)]; rfl
    | succ j => simp at hu
  · intro u hu
    simp at hu
    exact hu ▸ h1
section
variable {P : Program} {ops : Array Oper} {o : Oper} {a : Act} {Q : Exit → Act → World → Prop} {rest : List Oper}
/-- make([]T, 0, n). -/
theorem mk0_list (w : World) (hg : o.guard = none) (l c : Operand) (t : TypeId) (ho : o.op = .makeSlice t l c) (e : TypeId) (z : Value) (size bytes : Nat) (ht : P.underlying t = some (.slice e))
    (hinfo : (P.info? e).map (fun i => (i.zero, i.size, i.bytes)) = some (some z, size, bytes)) (kl kc : IntKind) (C : Int) (n : Nat) (hl : a.eval l = .int kl 0) (hc : a.eval c = .int kc C) (hC : C = n) (hb : bytes * n ≤ 281474976710656) (hm : n ≤ 9223372036854775807)
    (h : ∀ w', Row w' (fun k => k = w.heap.size) e size (.slice (some ⟨w.heap.size, 0, none⟩) 0 n) 0 [] → Keeps (fun _ => False) w w' → wpList P ops Q rest (a.put o.dst (.slice (some ⟨w.heap.size, 0, none⟩) 0 n)) w') : wpList P ops Q (o :: rest) a w := by
  obtain ⟨i, hi, hz, hsize, hby⟩ := info_parts hinfo
  subst hby
  exact wpList_make_own w hg l c t ho 0 e i z size ht hi hz hsize kl kc C n hl hc hC hb (by unfold maxLen; omega) (Nat.zero_le _) fun w' h1 h2 => h w' ⟨h1, fun k hk => by simpa [Value.ownBlock] using hk.symm⟩ ((Keeps.refl _ w).grown h2 (fun k hk => by simp at hk))
/-- make([]T, n). -/
theorem mkn_list (w : World) (hg : o.guard = none) (l c : Operand) (t : TypeId) (ho : o.op = .makeSlice t l c) (e : TypeId) (z : Value) (size bytes : Nat) (ht : P.underlying t = some (.slice e))
    (hinfo : (P.info? e).map (fun i => (i.zero, i.size, i.bytes)) = some (some z, size, bytes)) (kl kc : IntKind) (L C : Int) (n : Nat) (hl : a.eval l = .int kl L) (hc : a.eval c = .int kc C) (hL : L = n) (hC : C = n) (hb : bytes * n ≤ 281474976710656) (hm : n ≤ 9223372036854775807)
    (h : ∀ w', Row w' (fun k => k = w.heap.size) e size (.slice (some ⟨w.heap.size, 0, none⟩) n n) n (madeCells z.cells (n * size)).toList → Keeps (fun _ => False) w w' → wpList P ops Q rest (a.put o.dst (.slice (some ⟨w.heap.size, 0, none⟩) n n)) w') : wpList P ops Q (o :: rest) a w := by
  obtain ⟨i, hi, hz, hsize, hby⟩ := info_parts hinfo
  subst hby
  exact wpList_make_full w hg l c t ho 0 e i z size ht hi hz hsize kl kc L C n hl hc hL hC hb (by unfold maxLen; omega) (Nat.zero_le _) fun w' h1 h2 => h w' ⟨h1, fun k hk => by simpa [Value.ownBlock] using hk.symm⟩ ((Keeps.refl _ w).grown h2 (fun k hk => by simp at hk))
end
end Go.Proofs.Ytpaefeknbpfpmaa
