/- Texts that belong together: Txt StrP StrA StrB StrC Hash Ints Tab TabB TabC TabD TabE TabF TabG TabH. -/
import Derived.Test.YtmefdniocgcckaaGrpA
import Derived.Test.YtmefdniocgcckaaProg
import Derived.IntWalk
import Derived.OwnWalk
import Derived.Deep.RegionHeld3
set_option linter.unusedSimpArgs false
set_option linter.unusedVariables false
/- Texts: rows of strings that are read, rows of strings and bytes of the call's own. -/
namespace Go.Proofs.Ytmefdniocgcckaa
open Go.RowKit

/-- strings that stand in a row that is read -/
def Strs (w : World) (A : Option Addr) (ss : List ByteArray) : Prop := ∀ i s, ss[i]? = some s → ∃ b o, A = some ⟨b, o, none⟩ ∧ w.cell? ⟨b, o + i, none⟩ = some (.string s)

/-- Texts, one behind the other. -/
def cat (ss : List ByteArray) : List UInt8 := ss.flatMap fun s => s.data.toList
theorem cat_append (ss ts : List ByteArray) : cat (ss ++ ts) = cat ss ++ cat ts := by simp [cat]
theorem cat_take {ss : List ByteArray} {k : Nat} (hk : k < ss.length) : (cat (ss.take (k + 1))).length = (cat (ss.take k)).length + ss[k].size := by
  rw [List.take_succ_eq_append_getElem hk, cat_append]
  simp [cat]
theorem cat_take_le (ss : List ByteArray) (k : Nat) : (cat (ss.take k)).length ≤ (cat ss).length := by
  have := congrArg (fun l => (cat l).length) (List.take_append_drop k ss)
  simp only [cat_append, List.length_append] at this
  omega
theorem Strs.keeps {w w1 : World} {S : Nat → Prop} {A : Option Addr} {ss : List ByteArray} (h : Strs w A ss) (hk : Keeps S w w1) (hn : ∀ b o, A = some ⟨b, o, none⟩ → ¬ S b) : Strs w1 A ss := fun i s hi => by
  obtain ⟨b, o, rfl, hc⟩ := h i s hi
  exact ⟨b, o, rfl, hk.cell hc (hn b o rfl)⟩

theorem extract_cells (s : ByteArray) (n : Nat) : Go.byteCells (s.extract 0 n) = byteCells (s.data.toList.take n) := by
  simp [Go.byteCells, byteCells]
theorem info_uint8 : (Try.prog.info? 5).map (fun i => (i.zero, i.size, i.bytes)) = some (some (.int .u8 0), 1, 1) := by kernel_rfl

def strCellsOf (l : List ByteArray) : List Value := l.map .string
theorem strCellsOf_length (l : List ByteArray) : (strCellsOf l).length = l.length := by simp [strCellsOf]
theorem info_string : (Try.prog.info? 9).map (fun i => (i.zero, i.size, i.bytes)) = some (some (.string ⟨#[]⟩), 1, 16) := by kernel_rfl

theorem strs_of {w : World} {A : Option Addr} {ss : List ByteArray} (h : Reads 1 RStr w A ss) : Strs w A ss := fun i s hi => by
  obtain ⟨b, o, cs, rfl, h1, h2, h3⟩ := h i s hi
  refine ⟨b, o, rfl, ?_⟩
  simp only [RStr] at h2
  subst h2
  simpa using h3 0 _ rfl
theorem Strs.nil (w : World) (A : Option Addr) : Strs w A [] := fun i s h => by simp at h
theorem add_at (g o j : Nat) : (⟨g, o, none⟩ : Addr).add j = ⟨g, o + j, none⟩ := by unfold Addr.add; split <;> simp_all
theorem Strs.src {P : Program} {w : World} {A : Option Addr} {ss : List ByteArray} {c : Nat} {tx e : TypeId} (h : Strs w A ss) (hk : P.underlying tx = some (.slice e)) : Src P 1 tx (.slice A ss.length c) ss.length (strCellsOf ss) w := by
  cases hs : ss with
  | nil =>
    cases A with
    | none => exact Src.ofNil w hk c
    | some a => exact Src.ofSlice w hk a 0 c [] rfl (by simp) (by simp)
  | cons s l =>
    obtain ⟨b, o, rfl, _⟩ := h 0 s (by simp [hs])
    rw [← hs]
    refine Src.ofSlice w hk _ _ c _ (by simp [strCellsOf]) ?_ ?_
    · intro j u hu
      simp only [strCellsOf, List.getElem?_map, Option.map_eq_some_iff] at hu
      obtain ⟨s', h1, rfl⟩ := hu
      obtain ⟨b', o', he, hc⟩ := h j s' h1
      simp at he
      obtain ⟨rfl, rfl⟩ := he
      rw [add_at]; exact hc
    · intro u hu
      simp only [strCellsOf, List.mem_map] at hu
      obtain ⟨_, _, rfl⟩ := hu
      rfl
theorem Strs.lit (w : World) (ss : List ByteArray) (t : TypeId) : Strs (w.alloc (.cells (ss.map Value.string).toArray t)) (some ⟨w.heap.size, 0, none⟩) ss := fun i s h => ⟨_, _, rfl, by
  rw [blk_cell (blk_new w _)]
  simp [h]⟩
theorem Strs.lit' (w : World) (ss : List ByteArray) (t : TypeId) {n : Nat} (hn : n = w.heap.size) : Strs (w.alloc (.cells (ss.map Value.string).toArray t)) (some ⟨n, 0, none⟩) ss := hn ▸ Strs.lit w ss t
theorem Strs.own {w : World} {base e n c : Nat} {A : Option Addr} {ss : List ByteArray} (h : w.ownsRow base e 1 (.slice A n c) n (strCellsOf ss)) : Strs w A ss := fun i s hi => by
  rcases h.2 with ⟨h1, h2⟩ | ⟨g, cap, cur, h1, _⟩
  · have := h.1
    simp [strCellsOf, h2] at this
    simp [this] at hi
  · simp at h1
    obtain ⟨rfl, rfl⟩ := h1
    refine ⟨g, 0, rfl, ?_⟩
    have := h.cells (g := g) rfl i (.string s) (by simp [strCellsOf, hi])
    rwa [add_at] at this

theorem lit_append {w w' : World} {S : Nat → Prop} {ss : List ByteArray} {t : TypeId} (hk : Keeps S (w.alloc (.cells (ss.map Value.string).toArray t)) w') (hn : ¬ S w.heap.size) : Strs w' (some ⟨w.heap.size, 0, none⟩) ss :=
  (Strs.lit w ss t).keeps hk (fun b o h => by simp at h; rw [← h.1]; exact hn)

/-- One value, newly laid, as what is appended. -/
theorem src_one {P : Program} (w : World) (x : Value) (t : TypeId) {tx e : TypeId} (hk : P.underlying tx = some (.slice e)) (h1 : x.oneCell' = true) : Src P 1 tx (.slice (some ⟨w.heap.size, 0, none⟩) 1 1) 1 [x] (w.alloc (.cells #[x] t)) := by
  refine Src.ofSlice _ hk _ _ 1 _ rfl ?_ ?_
  · intro j u hu
    cases j with
    | zero => simp at hu; subst hu; rw [add_at, blk_cell (blk_new w _)]; rfl
    | succ j => simp at hu
  · intro u hu
    simp at hu
    exact hu ▸ h1
section
variable {P : Program} {ops : Array Oper} {o : Oper} {a : Act} {Q : Exit → Act → World → Prop} {rest : List Oper}
/-- make([]T, 0, n). -/
theorem mk0_list (w : World) (hg : o.guard = none) (l c : Operand) (t : TypeId) (ho : o.op = .makeSlice t l c) (e : TypeId) (z : Value) (size bytes : Nat) (ht : P.underlying t = some (.slice e))
    (hinfo : (P.info? e).map (fun i => (i.zero, i.size, i.bytes)) = some (some z, size, bytes)) (kl kc : IntKind) (C : Int) (n : Nat) (hl : a.eval l = .int kl 0) (hc : a.eval c = .int kc C) (hC : C = n) (hb : bytes * n ≤ 281474976710656) (hm : n ≤ 9223372036854775807)
    (h : ∀ w', Row w' (fun k => k = w.heap.size) e size (.slice (some ⟨w.heap.size, 0, none⟩) 0 n) 0 [] → Keeps (fun _ => False) w w' → wpList P ops Q rest (a.put o.dst (.slice (some ⟨w.heap.size, 0, none⟩) 0 n)) w') : wpList P ops Q (o :: rest) a w := by
  obtain ⟨i, hi, hz, hsize, hby⟩ := info_parts hinfo
  subst hby
  exact wpList_make_own w hg l c t ho 0 e i z size ht hi hz hsize kl kc C n hl hc hC hb (by unfold maxLen; omega) (Nat.zero_le _) fun w' h1 h2 => h w' ⟨h1, fun k hk => by simpa [Value.ownBlock] using hk.symm⟩ ((Keeps.refl _ w).grown h2 (fun k hk => by simp at hk))
/-- make([]T, n). -/
theorem mkn_list (w : World) (hg : o.guard = none) (l c : Operand) (t : TypeId) (ho : o.op = .makeSlice t l c) (e : TypeId) (z : Value) (size bytes : Nat) (ht : P.underlying t = some (.slice e))
    (hinfo : (P.info? e).map (fun i => (i.zero, i.size, i.bytes)) = some (some z, size, bytes)) (kl kc : IntKind) (L C : Int) (n : Nat) (hl : a.eval l = .int kl L) (hc : a.eval c = .int kc C) (hL : L = n) (hC : C = n) (hb : bytes * n ≤ 281474976710656) (hm : n ≤ 9223372036854775807)
    (h : ∀ w', Row w' (fun k => k = w.heap.size) e size (.slice (some ⟨w.heap.size, 0, none⟩) n n) n (madeCells z.cells (n * size)).toList → Keeps (fun _ => False) w w' → wpList P ops Q rest (a.put o.dst (.slice (some ⟨w.heap.size, 0, none⟩) n n)) w') : wpList P ops Q (o :: rest) a w := by
  obtain ⟨i, hi, hz, hsize, hby⟩ := info_parts hinfo
  subst hby
  exact wpList_make_full w hg l c t ho 0 e i z size ht hi hz hsize kl kc L C n hl hc hL hC hb (by unfold maxLen; omega) (Nat.zero_le _) fun w' h1 h2 => h w' ⟨h1, fun k hk => by simpa [Value.ownBlock] using hk.symm⟩ ((Keeps.refl _ w).grown h2 (fun k hk => by simp at hk))
end
end Go.Proofs.Ytmefdniocgcckaa
/- Layer 2, plain: what the functions on texts answer, on lists of bytes. No program in sight. -/
namespace Go.Proofs.Ytmefdniocgcckaa

/-- A digit to the base 16, small. -/
def hexd (n : Nat) : UInt8 := UInt8.ofNat (if n < 10 then 48 + n else 87 + n)
/-- A byte as it stands between quotes. -/
def esc (c : UInt8) : List UInt8 :=
  if c.toNat = 34 ∨ c.toNat = 39 ∨ c.toNat = 92 then [92, c]
  else if c.toNat = 10 then [92, 110] else if c.toNat = 13 then [92, 114] else if c.toNat = 9 then [92, 116]
  else if 32 ≤ c.toNat ∧ c.toNat < 127 then [c]
  else [92, 120, hexd (c.toNat / 16), hexd (c.toNat % 16)]
def quoteL (l : List UInt8) : List UInt8 := 34 :: (l.flatMap esc ++ [34])
/-- What a digit to the base 16 counts; 16: none. -/
def dig (c : UInt8) : Nat :=
  if 48 ≤ c.toNat ∧ c.toNat ≤ 57 then c.toNat - 48 else if 97 ≤ c.toNat ∧ c.toNat ≤ 102 then c.toNat - 87 else if 65 ≤ c.toNat ∧ c.toNat ≤ 70 then c.toNat - 55 else 16
def digI (c : UInt8) : Int := if dig c < 16 then dig c else -1
theorem dig_le (c : UInt8) : dig c ≤ 16 := by
  simp only [dig]
  split
  · omega
  · split
    · omega
    · split <;> omega
/-- Behind a backslash and an x: the byte, and how many bytes with the x. -/
def hx : List UInt8 → Nat × Nat
  | [] => (0, 0)
  | [a] => if dig a < 16 then (dig a, 2) else (0, 0)
  | a :: b :: _ => if dig a < 16 then (if dig b < 16 then (dig a * 16 + dig b, 3) else (dig a, 2)) else (0, 0)
/-- Behind a backslash: the byte, and how many bytes tell it; 0: none. -/
def beh : List UInt8 → Nat × Nat
  | [] => (0, 0)
  | c :: r =>
    if c.toNat = 34 ∨ c.toNat = 39 ∨ c.toNat = 92 then (c.toNat, 1) else if c.toNat = 110 then (10, 1) else if c.toNat = 114 then (13, 1) else if c.toNat = 116 then (9, 1)
    else if c.toNat = 48 then (0, 1) else if c.toNat = 120 then hx r else (0, 0)
/-- What stands between quotes, read from so many bytes on: the text, or where it is wrong. -/
def unescF : Nat → Nat → List UInt8 → List UInt8 ⊕ Nat
  | 0, _, _ => .inl []
  | _ + 1, _, [] => .inl []
  | f + 1, at', c :: r =>
    if c.toNat = 92 then
      if (beh r).2 = 0 then .inr at'
      else match unescF f (at' + 1 + (beh r).2) (r.drop (beh r).2) with
        | .inl t => .inl (UInt8.ofNat (beh r).1 :: t)
        | .inr k => .inr k
    else match unescF f (at' + 1) r with
      | .inl t => .inl (c :: t)
      | .inr k => .inr k
def unesc (l : List UInt8) : List UInt8 ⊕ Nat := unescF l.length 0 l

theorem hx_le (l : List UInt8) : (hx l).2 ≤ l.length + 1 := by
  match l with
  | [] => simp [hx]
  | [a] => simp only [hx]; split <;> simp
  | a :: b :: r => simp only [hx]; split <;> (try split) <;> simp
theorem hx_lt (l : List UInt8) : (hx l).1 < 256 := by
  match l with
  | [] => simp [hx]
  | [a] => simp only [hx]; split <;> simp; omega
  | a :: b :: r => simp only [hx]; split <;> (try split) <;> simp <;> omega
theorem beh_le (l : List UInt8) : (beh l).2 ≤ l.length := by
  cases l with
  | nil => simp [beh]
  | cons c r =>
    have := hx_le r
    simp only [beh]
    repeat (split; · simp)
    split <;> simp <;> omega
theorem beh_lt (l : List UInt8) : (beh l).1 < 256 := by
  cases l with
  | nil => simp [beh]
  | cons c r =>
    have := hx_lt r
    have h2 : c.toNat < 256 := c.toNat_lt
    simp only [beh]
    split
    · simpa using h2
    · repeat (split; · simp)
      split <;> simp <;> omega
theorem unescF_more (f : Nat) : ∀ (at' : Nat) (l : List UInt8) (g : Nat), l.length ≤ f → l.length ≤ g → unescF f at' l = unescF g at' l := by
  induction f with
  | zero =>
    intro at' l g h1 h2
    obtain rfl : l = [] := List.eq_nil_of_length_eq_zero (by omega)
    cases g <;> simp [unescF]
  | succ f ih =>
    intro at' l g h1 h2
    cases l with
    | nil => cases g <;> simp [unescF]
    | cons c r =>
      simp at h1 h2
      obtain ⟨g, rfl⟩ : ∃ m, g = m + 1 := ⟨g - 1, by omega⟩
      simp only [unescF]
      rw [ih (at' + 1) r g (by omega) (by omega), ih (at' + 1 + (beh r).2) (r.drop (beh r).2) g (by simp; omega) (by simp; omega)]
/-- What has been read so far ahead of what is read from here on. -/
def ahd (o : List UInt8) : List UInt8 ⊕ Nat → List UInt8 ⊕ Nat
  | .inl t => .inl (o ++ t)
  | .inr k => .inr k
def unAt (l : List UInt8) (i : Nat) : List UInt8 ⊕ Nat := unescF l.length i (l.drop i)
theorem unAt_zero (l : List UInt8) : ahd [] (unAt l 0) = unesc l := by
  simp only [unAt, unesc, List.drop_zero]
  cases unescF l.length 0 l <;> rfl
theorem unAt_end (l : List UInt8) (o : List UInt8) (i : Nat) (h : l.length ≤ i) : ahd o (unAt l i) = .inl o := by
  rw [unAt, List.drop_eq_nil_of_le h]
  cases l.length <;> simp [unescF, ahd]
theorem unAt_plain {l : List UInt8} {i : Nat} (o : List UInt8) (h : i < l.length) (hc : ¬ l[i].toNat = 92) : ahd o (unAt l i) = ahd (o ++ [l[i]]) (unAt l (i + 1)) := by
  have e : unAt l i = unescF ((l.drop i).length - 1 + 1) i (l.drop i) := unescF_more _ _ _ _ (by simp) (by omega)
  have e2 : unAt l (i + 1) = unescF ((l.drop i).length - 1) (i + 1) (l.drop (i + 1)) := unescF_more _ _ _ _ (by simp) (by simp; omega)
  rw [e, e2, List.drop_eq_getElem_cons h]
  simp only [unescF, if_neg hc]
  cases unescF ((l[i] :: l.drop (i + 1)).length - 1) (i + 1) (l.drop (i + 1)) <;> simp [ahd]
theorem unAt_bad {l : List UInt8} {i : Nat} (o : List UInt8) (h : i < l.length) (hc : l[i].toNat = 92) (hb : (beh (l.drop (i + 1))).2 = 0) : ahd o (unAt l i) = .inr i := by
  have e : unAt l i = unescF ((l.drop i).length - 1 + 1) i (l.drop i) := unescF_more _ _ _ _ (by simp) (by omega)
  rw [e, List.drop_eq_getElem_cons h]
  simp [unescF, hc, hb, ahd]
theorem unAt_esc {l : List UInt8} {i : Nat} (o : List UInt8) (h : i < l.length) (hc : l[i].toNat = 92) (hb : ¬ (beh (l.drop (i + 1))).2 = 0) :
    ahd o (unAt l i) = ahd (o ++ [UInt8.ofNat (beh (l.drop (i + 1))).1]) (unAt l (i + 1 + (beh (l.drop (i + 1))).2)) := by
  have e : unAt l i = unescF ((l.drop i).length - 1 + 1) i (l.drop i) := unescF_more _ _ _ _ (by simp) (by omega)
  have hl := beh_le (l.drop (i + 1))
  simp only [List.length_drop] at hl
  have e2 : unAt l (i + 1 + (beh (l.drop (i + 1))).2) = unescF ((l.drop i).length - 1) (i + 1 + (beh (l.drop (i + 1))).2) ((l.drop (i + 1)).drop (beh (l.drop (i + 1))).2) := by
    rw [List.drop_drop]
    exact unescF_more _ _ _ _ (by simp) (by simp; omega)
  rw [e, e2, List.drop_eq_getElem_cons h]
  simp only [unescF, if_pos hc, if_neg hb]
  cases unescF ((l[i] :: l.drop (i + 1)).length - 1) (i + 1 + (beh (l.drop (i + 1))).2) ((l.drop (i + 1)).drop (beh (l.drop (i + 1))).2) <;> simp [ahd]

/-- A name's byte; its first one. -/
def letterB (c : UInt8) : Bool := decide (97 ≤ c.toNat ∧ c.toNat ≤ 122) || decide (65 ≤ c.toNat ∧ c.toNat ≤ 90) || decide (c.toNat = 95)
def digitB (c : UInt8) : Bool := decide (48 ≤ c.toNat ∧ c.toNat ≤ 57)
def nameB : List UInt8 → Bool
  | [] => false
  | c :: r => letterB c && r.all fun d => letterB d || digitB d
def blankB (c : UInt8) : Bool := decide (c.toNat = 32) || decide (9 ≤ c.toNat ∧ c.toNat ≤ 13)
/-- byte by byte -/
def cmpL : List UInt8 → List UInt8 → Int
  | [], [] => 0
  | [], _ :: _ => -1
  | _ :: _, [] => 1
  | a :: l, b :: m => if a = b then cmpL l m else if a.toNat < b.toNat then -1 else 1
def lowB (c : UInt8) : UInt8 := if 65 ≤ c.toNat ∧ c.toNat ≤ 90 then UInt8.ofNat (c.toNat + 32) else c
def upB (c : UInt8) : UInt8 := if 97 ≤ c.toNat ∧ c.toNat ≤ 122 then UInt8.ofNat (c.toNat - 32) else c
def backL (l : List UInt8) : List UInt8 := (l.reverse.dropWhile blankB).reverse
end Go.Proofs.Ytmefdniocgcckaa
/- Layer 2: contracts of the functions on texts that call nothing of Go's library. -/
namespace Go.Proofs.Ytmefdniocgcckaa
open Go.RowKit
set_option maxRecDepth 100000

theorem digI_is (c : UInt8) : (48 ≤ c.toNat ∧ c.toNat ≤ 57 → digI c = c.toNat - 48) ∧ (97 ≤ c.toNat ∧ c.toNat ≤ 102 → digI c = c.toNat - 87) ∧ (65 ≤ c.toNat ∧ c.toNat ≤ 70 → digI c = c.toNat - 55) ∧
    (¬ (48 ≤ c.toNat ∧ c.toNat ≤ 57) ∧ ¬ (97 ≤ c.toNat ∧ c.toNat ≤ 102) ∧ ¬ (65 ≤ c.toNat ∧ c.toNat ≤ 70) → digI c = -1) := by
  have key : ∀ n : Nat, dig c = n → digI c = if n < 16 then (n : Int) else -1 := fun n h => by rw [digI, h]
  refine ⟨fun h => ?_, fun h => ?_, fun h => ?_, fun h => ?_⟩
  · rw [key (c.toNat - 48) (by rw [dig, if_pos h]), if_pos (by omega)]; omega
  · rw [key (c.toNat - 87) (by rw [dig, if_neg (by omega), if_pos h]), if_pos (by omega)]; omega
  · rw [key (c.toNat - 55) (by rw [dig, if_neg (by omega), if_neg (by omega), if_pos h]), if_pos (by omega)]; omega
  · rw [key 16 (by rw [dig, if_neg (by omega), if_neg (by omega), if_neg (by omega)]), if_neg (by omega)]
theorem text1 (c : UInt8) (w : World) : (convert 117 9 (.slice (some ⟨w.heap.size, 0, none⟩) 1 1)).run Try.prog (w.alloc (.cells #[.int .u8 c.toNat] 5)) = .ok (.string ⟨#[c]⟩) (w.alloc (.cells #[.int .u8 c.toNat] 5)) :=
  own_text (P := Try.prog) (base := 0) (e' := 5) (xs := [c]) Try.underlying117 Try.underlying5 Try.underlying9 ⟨rfl, .inr ⟨w.heap.size, 1, #[.int .u8 c.toNat], rfl, Nat.zero_le _, blk_new _ _, Nat.le_refl _, by decide, rfl, rfl⟩⟩
theorem esc_is (c : UInt8) : (c.toNat = 34 ∨ c.toNat = 39 ∨ c.toNat = 92 → esc c = [92, c]) ∧ (c.toNat = 10 → esc c = [92, 110]) ∧ (c.toNat = 13 → esc c = [92, 114]) ∧ (c.toNat = 9 → esc c = [92, 116]) ∧
    (¬ (c.toNat = 34 ∨ c.toNat = 39 ∨ c.toNat = 92) → 32 ≤ c.toNat ∧ c.toNat < 127 → esc c = [c]) ∧
    (¬ (c.toNat = 10 ∨ c.toNat = 13 ∨ c.toNat = 9) → ¬ (32 ≤ c.toNat ∧ c.toNat < 127) → esc c = [92, 120, hexd (c.toNat / 16), hexd (c.toNat % 16)]) := by
  refine ⟨fun h => ?_, fun h => ?_, fun h => ?_, fun h => ?_, fun h k => ?_, fun h k => ?_⟩
  · rw [esc, if_pos h]
  · rw [esc, if_neg (by omega), if_pos h]
  · rw [esc, if_neg (by omega), if_neg (by omega), if_pos h]
  · rw [esc, if_neg (by omega), if_neg (by omega), if_neg (by omega), if_pos h]
  · rw [esc, if_neg (by omega), if_neg (by omega), if_neg (by omega), if_neg (by omega), if_pos k]
  · rw [esc, if_neg (by omega), if_neg (by omega), if_neg (by omega), if_neg (by omega), if_neg k]
theorem hex_at : ∀ n, n < 16 → (⟨#[48, 49, 50, 51, 52, 53, 54, 55, 56, 57, 97, 98, 99, 100, 101, 102]⟩ : ByteArray).extract n (n + 1) = ⟨#[hexd n]⟩ := by decide
end Go.Proofs.Ytmefdniocgcckaa
/- Layer 2: contracts of behind, Unescape. -/
namespace Go.Proofs.Ytmefdniocgcckaa
open Go.RowKit
set_option maxRecDepth 100000

theorem toList_inj {a b : ByteArray} : a.toList = b.toList ↔ a = b := by
  rw [Lib.toList_data, Lib.toList_data]
  refine ⟨fun h => ?_, fun h => by rw [h]⟩
  exact ByteArray.ext (Array.ext' h)
theorem str_some {s : ByteArray} (h : 0 < s.size) : s.toList.isEmpty = false := by
  rw [Lib.toList_data, List.isEmpty_eq_false_iff_exists_mem]
  exact ⟨s[0], by simp [ByteArray.getElem_eq_getElem_data]⟩
theorem str_none {s : ByteArray} (h : ¬ 0 < s.size) : s = ⟨#[]⟩ := by
  apply ByteArray.ext
  apply Array.eq_empty_of_size_eq_zero
  have : s.data.size = s.size := rfl
  omega
theorem at_list (s : ByteArray) {k : Nat} (h : k < s.size) : s.data.toList[k]'(by simpa using h) = s[k] := by rw [Array.getElem_toList]; rfl
theorem list_cons {s : ByteArray} {k : Nat} (h : k < s.size) : s.data.toList.drop k = s[k] :: s.data.toList.drop (k + 1) := by
  rw [List.drop_eq_getElem_cons (by simpa using h), at_list s h]
theorem list_nil {s : ByteArray} {k : Nat} (h : ¬ k < s.size) : s.data.toList.drop k = [] := List.drop_eq_nil_of_le (by have : s.data.size = s.size := rfl; simp; omega)
theorem list_len (s : ByteArray) : s.data.toList.length = s.size := by simp
theorem ret_tup {a b c d : Value} (h1 : a = c) (h2 : b = d) : Ending.returned (.tuple #[a, b]) = .returned (.tuple #[c, d]) := by rw [h1, h2]
theorem beh_is (c : UInt8) (r : List UInt8) : (c.toNat = 34 ∨ c.toNat = 39 ∨ c.toNat = 92 → beh (c :: r) = (c.toNat, 1)) ∧ (c.toNat = 110 → beh (c :: r) = (10, 1)) ∧ (c.toNat = 114 → beh (c :: r) = (13, 1)) ∧ (c.toNat = 116 → beh (c :: r) = (9, 1)) ∧
    (c.toNat = 48 → beh (c :: r) = (0, 1)) ∧ (c.toNat = 120 → beh (c :: r) = hx r) ∧
    (¬ (c.toNat = 34 ∨ c.toNat = 39 ∨ c.toNat = 92) → ¬ (c.toNat = 110 ∨ c.toNat = 114 ∨ c.toNat = 116 ∨ c.toNat = 48 ∨ c.toNat = 120) → beh (c :: r) = (0, 0)) := by
  refine ⟨fun h => ?_, fun h => ?_, fun h => ?_, fun h => ?_, fun h => ?_, fun h => ?_, fun h k => ?_⟩
  · rw [beh, if_pos h]
  · rw [beh, if_neg (by omega), if_pos h]
  · rw [beh, if_neg (by omega), if_neg (by omega), if_pos h]
  · rw [beh, if_neg (by omega), if_neg (by omega), if_neg (by omega), if_pos h]
  · rw [beh, if_neg (by omega), if_neg (by omega), if_neg (by omega), if_neg (by omega), if_pos h]
  · rw [beh, if_neg (by omega), if_neg (by omega), if_neg (by omega), if_neg (by omega), if_neg (by omega), if_pos h]
  · rw [beh, if_neg (by omega), if_neg (by omega), if_neg (by omega), if_neg (by omega), if_neg (by omega), if_neg (by omega)]
theorem or_dig : ∀ a : Nat, a < 16 → ∀ b : Nat, b < 16 → bits BinOp.or .i64 ((a : Int) * 16) (b : Nat) = a * 16 + b := by decide
theorem or_dig0 : ∀ b : Nat, b < 16 → bits BinOp.or .i64 0 (b : Nat) = b := by decide
theorem hx_one (s : ByteArray) (h : ¬ 1 < s.size) : hx (s.data.toList.drop 1) = (0, 0) := by rw [list_nil h]; rfl
theorem hx_bad (s : ByteArray) (h : 1 < s.size) (hd : ¬ dig s[1] < 16) : hx (s.data.toList.drop 1) = (0, 0) := by
  rw [list_cons h]
  cases s.data.toList.drop (1 + 1) <;> simp [hx, hd]
theorem hx_two (s : ByteArray) (h : 1 < s.size) (hd : dig s[1] < 16) (h2 : ¬ 2 < s.size) : hx (s.data.toList.drop 1) = (dig s[1], 2) := by
  rw [list_cons h, list_nil h2]; simp [hx, hd]
theorem hx_two' (s : ByteArray) (h : 2 < s.size) (hd : dig s[1] < 16) (hd2 : ¬ dig s[2] < 16) : hx (s.data.toList.drop 1) = (dig s[1], 2) := by
  rw [list_cons (show 1 < s.size by omega), list_cons (show 1 + 1 < s.size by omega)]; simp [hx, hd, hd2]
theorem hx_three (s : ByteArray) (h : 2 < s.size) (hd : dig s[1] < 16) (hd2 : dig s[2] < 16) : hx (s.data.toList.drop 1) = (dig s[1] * 16 + dig s[2], 3) := by
  rw [list_cons (show 1 < s.size by omega), list_cons (show 1 + 1 < s.size by omega)]; simp [hx, hd, hd2]
/-- The digits behind an x, read so far: at place a the number n. -/
def hxAt (s : ByteArray) (n a : Nat) : Prop := (a = 1 ∧ n = 0) ∨ (a = 2 ∧ ∃ h : 1 < s.size, dig s[1] < 16 ∧ n = dig s[1]) ∨ (a = 3 ∧ ∃ h : 2 < s.size, dig s[1] < 16 ∧ dig s[2] < 16 ∧ n = dig s[1] * 16 + dig s[2])
theorem mkS_snoc (l : List UInt8) (c : UInt8) : mkS l ++ ⟨#[c]⟩ = mkS (l ++ [c]) := by
  apply ByteArray.ext; simp [mkS]
theorem byteCells_snoc (l : List UInt8) (c : UInt8) : byteCells l ++ [.int .u8 c.toNat] = byteCells (l ++ [c]) := by simp [byteCells]
/-- Unescape's answer. -/
def unAns : List UInt8 ⊕ Nat → Value
  | .inl t => .tuple #[.string (mkS t), .agg #[.int .i64 0, .int .i64 0]]
  | .inr k => .tuple #[.string ⟨#[]⟩, .agg #[.int .i64 20, .int .i64 k]]
theorem Keeps.fault {S : Nat → Prop} {a w : World} (h : Keeps S a w) {b : Nat} (hb : b < a.heap.size → S b) (u v : Value) : Keeps S a ((w.setCell ⟨b, 0, none⟩ u).setCell ⟨b, 1, none⟩ v) := (h.setCell (p := ⟨b, 0, none⟩) hb u).setCell (p := ⟨b, 1, none⟩) hb v
theorem drop_list (s : ByteArray) (k : Nat) : (s.extract k s.size).data.toList = s.data.toList.drop k := by
  have e : s.data.toList.length = s.size := by simp
  simp
  rw [List.take_of_length_le (by simp)]
end Go.Proofs.Ytmefdniocgcckaa
/- Layer 2: contracts of Compare, Hash, place, Slice, blank, Front, Back, Strip. -/
namespace Go.Proofs.Ytmefdniocgcckaa
open Go.RowKit
set_option maxRecDepth 100000

theorem cmpL_more {l m : List UInt8} {k : Nat} (h1 : k < l.length) (h2 : k < m.length) (h : l[k] = m[k]) : cmpL (l.drop k) (m.drop k) = cmpL (l.drop (k + 1)) (m.drop (k + 1)) := by
  rw [List.drop_eq_getElem_cons h1, List.drop_eq_getElem_cons h2]; simp [cmpL, h]
theorem cmpL_here {l m : List UInt8} {k : Nat} (h1 : k < l.length) (h2 : k < m.length) (h : l[k] ≠ m[k]) : cmpL (l.drop k) (m.drop k) = if l[k].toNat < m[k].toNat then -1 else 1 := by
  rw [List.drop_eq_getElem_cons h1, List.drop_eq_getElem_cons h2]; simp only [cmpL, if_neg h]
theorem cmpL_end {l m : List UInt8} {k : Nat} (h : k = min l.length m.length) : cmpL (l.drop k) (m.drop k) = if l.length < m.length then -1 else if m.length < l.length then 1 else 0 := by
  rcases Nat.lt_trichotomy l.length m.length with h1 | h1 | h1
  · obtain rfl : k = l.length := by omega
    rw [if_pos h1, List.drop_length, List.drop_eq_getElem_cons h1]; simp [cmpL]
  · obtain rfl : k = l.length := by omega
    rw [if_neg (by omega), if_neg (by omega), List.drop_length, h1, List.drop_length]; simp [cmpL]
  · obtain rfl : k = m.length := by omega
    rw [if_neg (by omega), if_pos h1, List.drop_length, List.drop_eq_getElem_cons h1]; simp [cmpL]
set_option maxHeartbeats 1000000 in
theorem str_Compare (a b : ByteArray) (w : World) (ha : a.size ≤ 140737488351232) (hb : b.size ≤ 140737488351232) : Calls Try.prog 44 #[.string a, .string b] w fun e w' => e = .returned (.int .i64 (cmpL a.data.toList b.data.toList)) ∧ Drew w w' := by
  have LA := hidden (list_len a)
  have LB := hidden (list_len b)
  have H0 := hidden (show cmpL (a.data.toList.drop 0) (b.data.toList.drop 0) = cmpL a.data.toList b.data.toList from rfl)
  generalize cmpL a.data.toList b.data.toList = r at *
  have go : ∀ m : Nat, m = min a.size b.size → ((m : Int) = if (b.size : Int) < a.size then (b.size : Int) else a.size) := by intro m h; split <;> omega
  clear go
  refine post_gen fun R hR => ?_
  go_enter Try.func44, Try.ntmps44
  go_wp2_with fail
  all_goals
    go_loopw [11] (fun i wr => ∃ (k : Nat), k ≤ a.size ∧ k ≤ b.size ∧ i = .int .i64 k ∧ Drew w wr ∧ cmpL (a.data.toList.drop k) (b.data.toList.drop k) = r) (fun i _ => a.size - (intOf i).toNat)
    case atStart => exact ⟨0, Nat.zero_le _, Nat.zero_le _, rfl, Drew.refl _, H0.out⟩
    case round =>
      obtain ⟨k, hk1, hk2, rfl, hD, heq⟩ := hrel
      have HEQ := hidden heq
      clear heq
      by_cases hlt : k < a.size ∧ k < b.size
      · obtain ⟨h1, h2⟩ := hlt
        have GA := hidden (at_list a h1)
        have GB := hidden (at_list b h2)
        have KA := hidden (show k < a.data.toList.length by rw [LA.out]; exact h1)
        have KB := hidden (show k < b.data.toList.length by rw [LB.out]; exact h2)
        by_cases hc : a[k] = b[k]
        · have i1 : ((a[k].toNat : Int) == b[k].toNat) = true := by simp; rw [hc]
          have i2 : ((a[k].toNat : Int) != b[k].toNat) = false := by simp; rw [hc]
          have HC := hidden (cmpL_more KA.out KB.out (by rw [GA.out, GB.out]; exact hc))
          clear hc
          go_wp2
          go_quiet (fail)
          go_wp2
          go_roundw
          case rel => exact ⟨k + 1, by omega, by omega, by go_num, hD.drewN _, by rw [← HC.out]; exact HEQ.out⟩
          case measure => simp [intOf]; omega
        · have hne : ¬ a[k].toNat = b[k].toNat := fun h => hc (UInt8.toNat_inj.1 h)
          have i1 : ((a[k].toNat : Int) == b[k].toNat) = false := by simp; omega
          have i2 : ((a[k].toNat : Int) != b[k].toNat) = true := by simp; omega
          have HC := hidden (cmpL_here KA.out KB.out (by rw [GA.out, GB.out]; exact hc))
          clear hc
          by_cases hlt : a[k].toNat < b[k].toNat
          · go_wp2
            go_quiet (fail)
            go_wp2
            go_quiet (fail)
            go_wp2
            refine hR.out _ _ ⟨show Ending.returned (.int .i64 _) = .returned (.int .i64 _) from ret_int ?_, (hD.drewN _).drewN _⟩
            rw [← HEQ.out, HC.out, if_pos (by rw [GA.out, GB.out]; exact hlt)]
          · go_wp2
            go_quiet (fail)
            go_wp2
            go_quiet (fail)
            go_wp2
            refine hR.out _ _ ⟨show Ending.returned (.int .i64 _) = .returned (.int .i64 _) from ret_int ?_, (hD.drewN _).drewN _⟩
            rw [← HEQ.out, HC.out, if_neg (by rw [GA.out, GB.out]; exact hlt)]
      · have HE := hidden (cmpL_end (l := a.data.toList) (m := b.data.toList) (k := k) (by rw [LA.out, LB.out]; omega))
        go_wp2
        all_goals
          refine hR.out _ _ ⟨show Ending.returned (.int .i64 _) = .returned (.int .i64 _) from ret_int ?_, hD⟩
          have h1 := HEQ.out
          rw [HE.out, LA.out, LB.out] at h1
          rw [← h1]
          first | rw [if_pos (by omega)] | rw [if_neg (by omega), if_pos (by omega)] | rw [if_neg (by omega), if_neg (by omega)]

def hstep (h : Int) (c : UInt8) : Int := IntKind.u64.wrap (bits BinOp.xor .u64 h (IntKind.u64.wrap c.toNat) * 1099511628211)
def hashL (l : List UInt8) : Int := l.foldl hstep 14695981039346656037
theorem hashL_take {l : List UInt8} {k : Nat} (h : k < l.length) : hashL (l.take (k + 1)) = hstep (hashL (l.take k)) l[k] := by
  rw [List.take_succ_eq_append_getElem h, hashL, List.foldl_append]; rfl
set_option maxHeartbeats 400000 in
theorem str_Hash (s : ByteArray) (w : World) (hs : s.size ≤ 140737488351232) : Calls Try.prog 80 #[.string s] w fun e w' => e = .returned (.int .u64 (hashL s.data.toList)) ∧ w = w' := by
  have LA := hidden (list_len s)
  refine post_gen fun R hR => ?_
  go_enter Try.func80, Try.ntmps80
  go_wp2_with fail
  go_loop [3, 7] (fun h i => ∃ k : Nat, k ≤ s.size ∧ i = .int .i64 k ∧ h = .int .u64 (hashL (s.data.toList.take k))) (fun _ i => s.size - (intOf i).toNat)
  case atStart => exact ⟨0, Nat.zero_le _, rfl, by simp only [List.take_zero, hashL, List.foldl_nil]⟩
  case round =>
    obtain ⟨k, hk, rfl, rfl⟩ := hrel
    by_cases hlt : k < s.size
    · have GA := hidden (at_list s hlt)
      have KA := hidden (hashL_take (l := s.data.toList) (k := k) (by rw [LA.out]; exact hlt))
      generalize hashL (s.data.toList.take k) = x at *
      go_wp2
      go_round
      case rel => exact ⟨k + 1, by omega, by go_num, by rw [KA.out, GA.out, hstep]⟩
      case measure => simp [intOf]; omega
    · obtain rfl : k = s.size := by omega
      go_wp2
      refine hR.out _ _ ⟨?_, rfl⟩
      rw [List.take_of_length_le (by rw [LA.out]; exact Nat.le_refl _)]
def plc (n : Int) (long : Nat) : Int := if n < 0 then n + long else n
/-- A piece of a text. -/
def slcAns (s : ByteArray) (a b : Int) : Value :=
  if plc a s.size < 0 ∨ plc b s.size < plc a s.size ∨ (s.size : Int) < plc b s.size then .tuple #[.string ⟨#[]⟩, .int .i64 1]
  else .tuple #[.string (s.extract (plc a s.size).toNat (plc b s.size).toNat), .int .i64 0]
theorem blankB_is (c : UInt8) : blankB c = true ↔ (c.toNat = 32 ∨ (9 ≤ c.toNat ∧ c.toNat ≤ 13)) := by simp [blankB]
def dropB (l : List UInt8) : List UInt8 := l.dropWhile blankB
theorem mkS_list (s : ByteArray) : mkS s.data.toList = s := by apply ByteArray.ext; simp [mkS]
theorem list_of_nil {t : ByteArray} (h : ¬ 0 < t.size) : t.data.toList = [] := by rw [str_none h]
theorem backL_snoc (l : List UInt8) (c : UInt8) : backL (l ++ [c]) = if blankB c = true then backL l else l ++ [c] := by
  simp only [backL, List.reverse_append, List.reverse_cons, List.reverse_nil, List.nil_append, List.cons_append, List.dropWhile_cons]
  split <;> simp
theorem list_snoc {t : ByteArray} (h : 0 < t.size) : t.data.toList = (t.extract 0 (t.size - 1)).data.toList ++ [t[t.size - 1]] := by
  have h1 : t.size - 1 < t.data.toList.length := by rw [list_len]; omega
  have h2 := List.take_succ_eq_append_getElem h1
  rw [at_list t (show t.size - 1 < t.size by omega), List.take_of_length_le (by rw [list_len]; omega)] at h2
  have e : (t.extract 0 (t.size - 1)).data.toList = t.data.toList.take (t.size - 1) := by
    rw [ByteArray.data_extract, Array.toList_extract, List.extract_eq_take_drop]; simp
  rw [e]
  exact h2
end Go.Proofs.Ytmefdniocgcckaa
/- Hashes: num.Hash, value.Hash: contracts; what is plain of them. -/
namespace Go.Proofs.Ytmefdniocgcckaa
open Go.RowKit
set_option maxRecDepth 100000

theorem shift_zero (z k : Nat) (hk : 0 < k) (h : z = z >>> k) : z = 0 := by
  rw [Nat.shiftRight_eq_div_pow] at h
  have h2 : 2 ≤ 2 ^ k := by
    have := Nat.pow_le_pow_right (show 0 < 2 by decide) (show 1 ≤ k from hk)
    simpa using this
  by_cases h0 : z = 0
  · exact h0
  · have := Nat.div_lt_self (show 0 < z by omega) h2
    omega
theorem mix_inj (k x y : Nat) (hk : 0 < k) (h : x ^^^ (x >>> k) = y ^^^ (y >>> k)) : x = y := by
  have e : x ^^^ y = (x ^^^ y) >>> k := by
    rw [Nat.shiftRight_xor_distrib]
    have h2 := congrArg (fun z => z ^^^ (x >>> k) ^^^ y) h
    rw [Nat.xor_assoc x, Nat.xor_self, Nat.xor_zero] at h2
    rw [h2, Nat.xor_comm y, Nat.xor_assoc, Nat.xor_assoc, Nat.xor_comm y (x >>> k ^^^ y), Nat.xor_assoc, Nat.xor_self, Nat.xor_zero, Nat.xor_comm]
  have := shift_zero _ k hk e
  have h3 := congrArg (fun z => z ^^^ y) this
  rw [Nat.xor_assoc, Nat.xor_self, Nat.xor_zero, Nat.zero_xor] at h3
  exact h3
theorem mul_inj (c d x y : Nat) (hc : (c * d) % 18446744073709551616 = 1) (hx : x < 18446744073709551616) (hy : y < 18446744073709551616) (h : (x * c) % 18446744073709551616 = (y * c) % 18446744073709551616) : x = y := by
  have h2 : (x * c * d) % 18446744073709551616 = (y * c * d) % 18446744073709551616 := by rw [Nat.mul_mod (x * c), h, ← Nat.mul_mod]
  rw [Nat.mul_assoc, Nat.mul_assoc, Nat.mul_mod x, Nat.mul_mod y, hc, Nat.mul_one, Nat.mul_one, Nat.mod_mod, Nat.mod_mod, Nat.mod_eq_of_lt hx, Nat.mod_eq_of_lt hy] at h2
  exact h2
def hash0 (a : Int) : Int :=
  let x0 := IntKind.u64.wrap a
  let x1 := bits BinOp.xor .u64 x0 (x0 / 1073741824)
  let x2 := IntKind.u64.wrap (x1 * 13787848793156543929)
  let x3 := bits BinOp.xor .u64 x2 (x2 / 134217728)
  let x4 := IntKind.u64.wrap (x3 * 10723151780598845931)
  bits BinOp.xor .u64 x4 (x4 / 2147483648)
theorem num_Hash (x : Int) (w : World) : Calls Try.prog 81 #[.int .i64 x] w fun e w' => e = .returned (.int .u64 (hash0 x)) ∧ w = w' := by
  refine post_gen fun R hR => ?_
  go_enter Try.func81, Try.ntmps81
  go_wp2_with fail
  refine hR.out _ _ ⟨show Ending.returned (.int .u64 _) = .returned (.int .u64 _) from ret_int ?_, rfl⟩
  simp only [hash0]
theorem xor_nat (n k : Nat) (d : Int) (p : Nat) (hp : p = 2 ^ k) (hd : d = p) (h : n < 18446744073709551616) : bits BinOp.xor .u64 (n : Int) ((n : Int) / d) = ((n ^^^ (n >>> k) : Nat) : Int) := by
  subst hd hp
  rw [show (n : Int) / ((2 ^ k : Nat) : Int) = ((n / 2 ^ k : Nat) : Int) from by rw [Int.natCast_ediv], bits_xor_u64_nat _ _ h (Nat.lt_of_le_of_lt (Nat.div_le_self _ _) h), Nat.shiftRight_eq_div_pow]
theorem xor_lt (n k : Nat) (h : n < 18446744073709551616) : n ^^^ (n >>> k) < 18446744073709551616 := by
  have h2 : n < 2 ^ 64 := h
  exact Nat.xor_lt_two_pow h2 (Nat.lt_of_le_of_lt (Nat.shiftRight_le _ _) h2)
theorem mul_nat (n c : Nat) (d : Int) (hd : d = c) : IntKind.u64.wrap ((n : Int) * d) = (((n * c) % 18446744073709551616 : Nat) : Int) := by
  subst hd
  rw [IntKind.wrap_u64, ← Int.natCast_mul]
  generalize n * c = m
  omega
def hashN (n : Nat) : Nat :=
  let x1 := n ^^^ (n >>> 30)
  let x2 := (x1 * 13787848793156543929) % 18446744073709551616
  let x3 := x2 ^^^ (x2 >>> 27)
  let x4 := (x3 * 10723151780598845931) % 18446744073709551616
  x4 ^^^ (x4 >>> 31)
theorem hash0_nat (a : Int) : hash0 a = hashN (a % 18446744073709551616).toNat := by
  have hx : IntKind.u64.wrap a = ((a % 18446744073709551616).toNat : Int) := by rw [IntKind.wrap_u64]; omega
  have h0 : (a % 18446744073709551616).toNat < 18446744073709551616 := by omega
  have l3 : ∀ x c, (x * c) % 18446744073709551616 < 18446744073709551616 := fun x c => Nat.mod_lt _ (by decide)
  rw [hash0, hashN, hx]
  generalize (a % 18446744073709551616).toNat = n at *
  rw [xor_nat n 30 1073741824 1073741824 rfl rfl h0, mul_nat _ 13787848793156543929 13787848793156543929 rfl, xor_nat _ 27 134217728 134217728 rfl rfl (l3 _ _), mul_nat _ 10723151780598845931 10723151780598845931 rfl, xor_nat _ 31 2147483648 2147483648 rfl rfl (l3 _ _)]
theorem hashN_inj (n m : Nat) (hn : n < 18446744073709551616) (hm : m < 18446744073709551616) (h : hashN n = hashN m) : n = m := by
  simp only [hashN] at h
  have h1 := mix_inj 31 _ _ (by decide) h
  have l3 : ∀ x, (x * 13787848793156543929) % 18446744073709551616 < 18446744073709551616 := fun x => Nat.mod_lt _ (by decide)
  have h2 := mul_inj 10723151780598845931 3573116690164977347 _ _ (by decide) (xor_lt _ 27 (l3 _)) (xor_lt _ 27 (l3 _)) h1
  have h3 := mix_inj 27 _ _ (by decide) h2
  have h4 := mul_inj 13787848793156543929 10871156337175269513 _ _ (by decide) (xor_lt _ 30 hn) (xor_lt _ 30 hm) h3
  exact mix_inj 30 _ _ (by decide) h4
theorem hash0_inj (a b : Int) (ha : -9223372036854775808 ≤ a ∧ a ≤ 9223372036854775807) (hb : -9223372036854775808 ≤ b ∧ b ≤ 9223372036854775807) (h : hash0 a = hash0 b) : a = b := by
  rw [hash0_nat, hash0_nat] at h
  have := hashN_inj _ _ (by omega) (by omega) (Int.ofNat.inj h)
  omega
def V.hash (v : V) : Int := if v.k = 3 then hashL v.t.data.toList else if v.k = 0 then 0 else IntKind.u64.wrap (hash0 v.n + IntKind.u64.wrap (IntKind.u64.wrap v.k * 11400714819323198485))
theorem value_Hash (v : V) (w : World) (ht : v.t.size ≤ 140737488351232) : Calls Try.prog 72 #[v.val] w fun e w' => e = .returned (.int .u64 v.hash) ∧ Keeps (fun _ => False) w w' := by
  obtain ⟨k, n, t⟩ := v
  have h1 := hidden (fun W => str_Hash t W ht)
  have h2 := hidden (fun W => num_Hash n W)
  unfold V.val
  simp only [V.hash]
  generalize hashL t.data.toList = x at *
  generalize hash0 n = y at *
  refine post_gen fun R hR => ?_
  by_cases g3 : k = 3
  · subst g3
    rw [if_pos rfl] at hR
    go_enter Try.func72, Try.ntmps72
    go_wp2_with (go_at_call 80; refine (h1.out _).mono ?_; rintro e _ ⟨rfl, rfl⟩)
    exact hR.out _ _ ⟨rfl, (Keeps.refl _ _).alloc _⟩
  · have i3 : (k == 3) = false := by simpa using g3
    rw [if_neg g3] at hR
    by_cases g0 : k = 0
    · subst g0
      rw [if_pos rfl] at hR
      go_enter Try.func72, Try.ntmps72
      go_wp2_with fail
      exact hR.out _ _ ⟨rfl, (Keeps.refl _ _).alloc _⟩
    · have i0 : (k == 0) = false := by simpa using g0
      rw [if_neg g0] at hR
      go_enter Try.func72, Try.ntmps72
      go_wp2_with fail
      go_quiet ((go_at_call 81; exact Calls.quiet_of_same ((h2.out _).mono fun _ _ ⟨h1, h2⟩ => ⟨h1, h2.symm⟩)))
      go_wp2_with fail
      exact hR.out _ _ ⟨show Ending.returned (.int .u64 _) = .returned (.int .u64 _) from ret_int rfl, ((Keeps.refl _ _).alloc _).drewN _⟩
theorem u64_in (n : Int) : 0 ≤ IntKind.u64.wrap n ∧ IntKind.u64.wrap n < 18446744073709551616 := by rw [IntKind.wrap_u64]; omega
theorem hashN_lt (n : Nat) : hashN n < 18446744073709551616 := by
  simp only [hashN]
  exact xor_lt _ 31 (Nat.mod_lt _ (by decide))
theorem hash0_in (n : Int) : 0 ≤ hash0 n ∧ hash0 n < 18446744073709551616 := by
  rw [hash0_nat]
  have := hashN_lt (n % 18446744073709551616).toNat
  omega
theorem hstep_in (l : List UInt8) : ∀ a : Int, 0 ≤ a ∧ a < 18446744073709551616 → 0 ≤ l.foldl hstep a ∧ l.foldl hstep a < 18446744073709551616 := by
  induction l with
  | nil => intro a h; exact h
  | cons c l ih => intro a _; exact ih _ (u64_in _)
theorem hashL_in (l : List UInt8) : 0 ≤ hashL l ∧ hashL l < 18446744073709551616 := hstep_in l _ (by omega)
theorem V.hash_in (v : V) : 0 ≤ v.hash ∧ v.hash < 18446744073709551616 := by
  unfold V.hash
  split
  · exact hashL_in _
  · split
    · omega
    · exact u64_in _
end Go.Proofs.Ytmefdniocgcckaa
/- Rows of whole numbers that are read. -/
namespace Go.Proofs.Ytmefdniocgcckaa
open Go.RowKit

def Ints (w : World) (A : Option Addr) (l : List Int) : Prop := ∀ i x, l[i]? = some x → ∃ b o, A = some ⟨b, o, none⟩ ∧ w.cell? ⟨b, o + i, none⟩ = some (.int .i64 x)
theorem Ints.keeps {w w1 : World} {S : Nat → Prop} {A : Option Addr} {l : List Int} (h : Ints w A l) (hk : Keeps S w w1) (hn : 0 < l.length → ∀ b o, A = some ⟨b, o, none⟩ → ¬ S b) : Ints w1 A l := fun i x hi => by
  obtain ⟨b, o, rfl, h1⟩ := h i x hi
  exact ⟨b, o, rfl, hk.cell h1 (hn (by have := (List.getElem?_eq_some_iff.1 hi).1; omega) b o rfl)⟩
theorem Ints.own {w : World} {base e n c : Nat} {A : Option Addr} {l : List Int} (h : w.ownsRow base e 1 (.slice A n c) n (intCells l)) : Ints w A l := fun i x hi => by
  have hil := (List.getElem?_eq_some_iff.1 hi).1
  rcases h.2 with ⟨h1, h2⟩ | ⟨g, cap, cur, h1, _⟩
  · have := h.1
    simp [intCells] at this
    omega
  · simp at h1
    obtain ⟨rfl, rfl⟩ := h1
    have hc := h.cells (g := g) rfl i (.int .i64 x) (by simp [intCells, hi])
    rw [add_at3] at hc
    exact ⟨g, 0, rfl, hc⟩
theorem cellNums_at {xs : List V} {m : Nat} (hm : m < xs.length) (h4 : xs[m].k = 4) : (cellNums xs)[(cellNums (xs.take m)).length]? = some xs[m].n := by
  have e : xs = xs.take (m + 1) ++ xs.drop (m + 1) := (List.take_append_drop _ _).symm
  have e2 : cellNums xs = cellNums (xs.take m) ++ [xs[m].n] ++ cellNums (xs.drop (m + 1)) := by
    conv => lhs; rw [e]
    simp only [cellNums, List.filter_append, List.map_append]
    have := cellNums_succ hm
    rw [if_pos h4] at this
    simp only [cellNums] at this
    rw [this]
  rw [e2, List.append_assoc, List.getElem?_append_right (Nat.le_refl _)]
  simp
end Go.Proofs.Ytmefdniocgcckaa
/- Layer 5: tables (table.Table): their cells; the walk of find. -/
namespace Go.Proofs.Ytmefdniocgcckaa
open Go.RowKit
set_option maxRecDepth 100000

/-- An entry: its key, its value, when it came, whether it is gone. -/
structure Ent where
  key : V
  val : V
  ser : Int
  gone : Bool
def Ent.cells (e : Ent) : List Value := [.int .i64 e.key.k, .int .i64 e.key.n, .string e.key.t, .int .i64 e.val.k, .int .i64 e.val.n, .string e.val.t, .int .i64 e.ser, .bool e.gone]
def flatE (E : List Ent) : List Value := E.flatMap Ent.cells
theorem flatE_length (E : List Ent) : (flatE E).length = E.length * 8 := by
  induction E with
  | nil => rfl
  | cons x xs ih => simp only [flatE, List.flatMap_cons, List.length_append] at ih ⊢; rw [ih]; simp [Ent.cells]; omega
theorem flatE_append (E G : List Ent) : flatE (E ++ G) = flatE E ++ flatE G := by simp [flatE]
theorem flatE_one (E : List Ent) : ∀ u ∈ flatE E, u.oneCell' = true := by
  intro u hu
  simp only [flatE, List.mem_flatMap] at hu
  obtain ⟨v, _, h⟩ := hu
  simp [Ent.cells] at h
  rcases h with rfl | rfl | rfl | rfl | rfl | rfl | rfl | rfl <;> rfl
theorem flatE_take (xs : List Ent) : ∀ m, (flatE xs).take (m * 8) = flatE (xs.take m) := by
  induction xs with
  | nil => intro m; simp [flatE]
  | cons x xs ih =>
    intro m
    cases m with
    | zero => simp [flatE]
    | succ m =>
      have e : flatE (x :: xs) = x.cells ++ flatE xs := by simp [flatE]
      have e2 : flatE ((x :: xs).take (m + 1)) = x.cells ++ flatE (xs.take m) := by simp [flatE]
      rw [e, e2, ← ih m, List.take_append, List.take_of_length_le (by simp [Ent.cells]; omega)]
      congr 2
      simp [Ent.cells]; omega
theorem flatE_drop (xs : List Ent) (i : Nat) (hi : i ≤ xs.length) : flatE (xs.drop i) = (flatE xs).drop (i * 8) := by
  have h := flatE_append (xs.take i) (xs.drop i)
  rw [List.take_append_drop] at h
  have hl : (flatE (xs.take i)).length = i * 8 := by rw [flatE_length, List.length_take, Nat.min_eq_left hi]
  rw [h, ← hl, List.drop_left]
theorem flatE_get (xs : List Ent) : ∀ (i : Nat) (x : Ent), xs[i]? = some x → ∀ j, j < 8 → (flatE xs)[i * 8 + j]? = x.cells[j]? := by
  induction xs with
  | nil => intro i x h; simp at h
  | cons y xs ih =>
    intro i x h j hj
    have e : flatE (y :: xs) = y.cells ++ flatE xs := by simp [flatE]
    rw [e]
    cases i with
    | zero =>
      simp at h
      subst h
      rw [List.getElem?_append_left (by simp [Ent.cells]; omega)]
      simp
    | succ i =>
      simp at h
      rw [List.getElem?_append_right (by simp [Ent.cells]; omega)]
      have := ih i x h j hj
      rw [← this]
      congr 1
      simp [Ent.cells]; omega
/-- Entry i of a row, its cells. -/
structure EntAt (w : World) (g o i : Nat) (x : Ent) : Prop where
  c0 : w.cell? ⟨g, o + i * 8, none⟩ = some (.int .i64 x.key.k)
  c1 : w.cell? ⟨g, o + i * 8 + 1, none⟩ = some (.int .i64 x.key.n)
  c2 : w.cell? ⟨g, o + i * 8 + 2, none⟩ = some (.string x.key.t)
  c3 : w.cell? ⟨g, o + i * 8 + 3, none⟩ = some (.int .i64 x.val.k)
  c4 : w.cell? ⟨g, o + i * 8 + 4, none⟩ = some (.int .i64 x.val.n)
  c5 : w.cell? ⟨g, o + i * 8 + 5, none⟩ = some (.string x.val.t)
  c6 : w.cell? ⟨g, o + i * 8 + 6, none⟩ = some (.int .i64 x.ser)
  c7 : w.cell? ⟨g, o + i * 8 + 7, none⟩ = some (.bool x.gone)
theorem EntAt.keeps {w w1 : World} {S : Nat → Prop} {g o i : Nat} {x : Ent} (h : EntAt w g o i x) (hk : Keeps S w w1) (hn : ¬ S g) : EntAt w1 g o i x :=
  ⟨hk.cell h.c0 hn, hk.cell h.c1 hn, hk.cell h.c2 hn, hk.cell h.c3 hn, hk.cell h.c4 hn, hk.cell h.c5 hn, hk.cell h.c6 hn, hk.cell h.c7 hn⟩
def Ents (w : World) (A : Option Addr) (E : List Ent) : Prop := ∀ i x, E[i]? = some x → ∃ g o, A = some ⟨g, o, none⟩ ∧ EntAt w g o i x
theorem Ents.keeps {w w1 : World} {S : Nat → Prop} {A : Option Addr} {E : List Ent} (h : Ents w A E) (hk : Keeps S w w1) (hn : 0 < E.length → ∀ b o, A = some ⟨b, o, none⟩ → ¬ S b) : Ents w1 A E := fun i x hi => by
  obtain ⟨b, o, rfl, h1⟩ := h i x hi
  exact ⟨b, o, rfl, h1.keeps hk (hn (by have := (List.getElem?_eq_some_iff.1 hi).1; omega) b o rfl)⟩
theorem Ents.own {w : World} {base e n c : Nat} {A : Option Addr} {E : List Ent} (h : w.ownsRow base e 8 (.slice A n c) n (flatE E)) : Ents w A E := fun i x hi => by
  have hil := (List.getElem?_eq_some_iff.1 hi).1
  rcases h.2 with ⟨h1, h2⟩ | ⟨g, cap, cur, h1, _⟩
  · have := h.1
    rw [flatE_length] at this
    omega
  · simp at h1
    obtain ⟨rfl, rfl⟩ := h1
    have hc := h.cells (g := g) rfl
    have k : ∀ j v, j < 8 → x.cells[j]? = some v → w.cell? ⟨g, 0 + (i * 8 + j), none⟩ = some v := fun j v hj hv => by
      have := hc (i * 8 + j) v ((flatE_get E i x hi j hj).trans hv)
      rwa [add_at3] at this
    exact ⟨g, 0, rfl, ⟨k 0 _ (by omega) rfl, k 1 _ (by omega) rfl, k 2 _ (by omega) rfl, k 3 _ (by omega) rfl, k 4 _ (by omega) rfl, k 5 _ (by omega) rfl, k 6 _ (by omega) rfl, k 7 _ (by omega) rfl⟩⟩

/-- A table as it lies: entries, slots, how many are live, how many slots are used, the last serial. -/
structure Tb where
  E : List Ent
  S : List Int
  live : Int
  used : Int
  ser : Int
structure TabAt (w : World) (F : Nat → Prop) (b : Nat) (ve vs : Value) (t : Tb) : Prop where
  blk : w.heap[b]? = some (.cells #[ve, vs, .int .i64 t.live, .int .i64 t.used, .int .i64 t.ser] 90 (0, 0))
  here : F b
  ents : Row w F 95 8 ve t.E.length (flatE t.E)
  slots : Row w F 3 1 vs t.S.length (intCells t.S)
  inw : In F w
def IsTab (w : World) (F : Nat → Prop) (b : Nat) (t : Tb) : Prop := ∃ ve vs, TabAt w F b ve vs t
theorem TabAt.keeps {w w1 : World} {F S : Nat → Prop} {b : Nat} {ve vs : Value} {t : Tb} (h : TabAt w F b ve vs t) (hk : Keeps S w w1) (hn : Apart F S) : TabAt w1 F b ve vs t :=
  ⟨hk.heap h.blk (hn _ h.here), h.here, h.ents.keeps hk hn, h.slots.keeps hk hn, h.inw.keeps hk⟩
theorem TabAt.none {w w1 : World} {F : Nat → Prop} {b : Nat} {ve vs : Value} {t : Tb} (h : TabAt w F b ve vs t) (hk : Keeps (fun _ => False) w w1) : TabAt w1 F b ve vs t := h.keeps hk (Apart.no _)
theorem IsTab.keeps {w w1 : World} {F S : Nat → Prop} {b : Nat} {t : Tb} (h : IsTab w F b t) (hk : Keeps S w w1) (hn : Apart F S) : IsTab w1 F b t := by
  obtain ⟨ve, vs, h⟩ := h
  exact ⟨ve, vs, h.keeps hk hn⟩
theorem IsTab.none {w w1 : World} {F : Nat → Prop} {b : Nat} {t : Tb} (h : IsTab w F b t) (hk : Keeps (fun _ => False) w w1) : IsTab w1 F b t := h.keeps hk (Apart.no _)
theorem IsTab.inw {w : World} {F : Nat → Prop} {b : Nat} {t : Tb} (h : IsTab w F b t) : In F w := by obtain ⟨_, _, h⟩ := h; exact h.inw

/-- The slot of a key, and whether it is there: m steps are left, the d-th slot is looked at; f: the first slot where it could be. -/
def probe (E : List Ent) (S : List Int) (key : V) (h : Nat) : Nat → Nat → Option Nat → Nat × Bool
  | 0, _, f => (f.getD 0, false)
  | m + 1, d, f =>
    if S.getD ((h + d) % S.length) 0 = (0 : Int) then (f.getD ((h + d) % S.length), false)
    else if S.getD ((h + d) % S.length) 0 = (-1 : Int) then probe E S key h m (d + 1) (some (f.getD ((h + d) % S.length)))
    else if (E.map (·.key))[(S.getD ((h + d) % S.length) 0).toNat - 1]? = some key then ((h + d) % S.length, true)
    else probe E S key h m (d + 1) f
def keyHash (key : V) : Nat := key.hash.toNat / 2
def findT (t : Tb) (key : V) : Nat × Bool := if t.S.length = 0 then (0, false) else probe t.E t.S key (keyHash key) t.S.length 0 none
/-- What the code asks of a table, that it may not panic. -/
structure Tb.safe (t : Tb) : Prop where
  two : t.S.length = 0 ∨ ∃ m : Nat, m ≤ 30 ∧ t.S.length = 2 ^ m
  inE : ∀ (i : Nat) (s : Int), t.S[i]? = some s → s = 0 ∨ s = -1 ∨ (1 ≤ s ∧ s ≤ (t.E.length : Int))
  many : t.E.length ≤ 1073741824

def first : Option Nat → Int
  | none => -1
  | some x => x
theorem probe_step {E : List Ent} {S : List Int} {key : V} {h m d j : Nat} {f : Option Nat} (hj : (h + d) % S.length = j) : probe E S key h (m + 1) d f =
    if S.getD j 0 = (0 : Int) then (f.getD j, false) else if S.getD j 0 = (-1 : Int) then probe E S key h m (d + 1) (some (f.getD j)) else if (E.map (·.key))[(S.getD j 0).toNat - 1]? = some key then (j, true) else probe E S key h m (d + 1) f := by
  rw [probe, hj]
theorem mask_nat (x n m : Nat) (hm : m ≤ 30) (hn : n = 2 ^ m) (hx : x < 9223372036854775808) : bits .and .i64 (x : Int) ((n : Int) - 1) = ((x % n : Nat) : Int) := by
  have hpos : 1 ≤ n := by rw [hn]; exact Nat.one_le_two_pow
  have hle : n ≤ 1073741824 := by rw [hn]; exact Nat.pow_le_pow_right (by decide) hm
  have e : (n : Int) - 1 = ((n - 1 : Nat) : Int) := by omega
  have h1 : (BitVec.ofInt 64 (x : Int)).toNat = x := by rw [BitVec.ofInt_natCast, BitVec.toNat_ofNat]; exact Nat.mod_eq_of_lt (by omega)
  have h2 : (BitVec.ofInt 64 ((n - 1 : Nat) : Int)).toNat = n - 1 := by rw [BitVec.ofInt_natCast, BitVec.toNat_ofNat]; exact Nat.mod_eq_of_lt (by omega)
  have h3 : x % n < n := Nat.mod_lt _ hpos
  rw [e]
  show IntKind.i64.wrap ((BitVec.ofInt 64 (x : Int) &&& BitVec.ofInt 64 ((n - 1 : Nat) : Int)).toNat : Int) = _
  rw [BitVec.toNat_and, h1, h2]
  conv => lhs; rw [hn]
  rw [Nat.and_two_pow_sub_one_eq_mod, ← hn, IntKind.wrap_i64]
  omega
theorem key_none {E : List Ent} {j : Nat} {key : V} {x : Ent} (hx : E[j]? = some x) (h : ¬ x.key = key) : ¬ (E.map (·.key))[j]? = some key := by
  rw [List.getElem?_map, hx]; simpa using h
theorem key_some {E : List Ent} {j : Nat} {key : V} {x : Ent} (hx : E[j]? = some x) (h : x.key = key) : (E.map (·.key))[j]? = some key := by
  rw [List.getElem?_map, hx]; simpa using h
theorem V.ne_cases' {a b : V} (h : ¬ b = a) : ¬ a.k = b.k ∨ (a.k = b.k ∧ ¬ a.n = b.n) ∨ (a.k = b.k ∧ a.n = b.n ∧ ¬ a.t.toList = b.t.toList) := by
  by_cases h1 : a.k = b.k
  · by_cases h2 : a.n = b.n
    · refine .inr (.inr ⟨h1, h2, fun h3 => h ?_⟩)
      have h4 : a.t = b.t := by
        rw [Lib.toList_data, Lib.toList_data] at h3
        exact ByteArray.ext (Array.ext' h3)
      cases a; cases b; simp_all
    · exact .inr (.inl ⟨h1, h2⟩)
  · exact .inl h1

set_option maxHeartbeats 16000000 in
theorem table_find (w : World) (F : Nat → Prop) (b : Nat) (t : Tb) (key : V) (h : IsTab w F b t) (hs : t.safe) (hk : key.t.size ≤ 140737488351232) :
    Calls Try.prog 60 #[.pointer (some ⟨b, 0, none⟩), key.val] w fun e w' => e = .returned (.tuple #[.int .i64 (findT t key).1, .bool (findT t key).2]) ∧ Keeps (fun _ => False) w w' := by
  obtain ⟨ve, vs, hT⟩ := h
  obtain ⟨Ae, ce, rfl⟩ := hT.ents.form
  obtain ⟨As, cs, rfl⟩ := hT.slots.form
  obtain ⟨E, S, live, used, ser⟩ := t
  have HT := hidden hT
  have HS := hidden hs
  have hb := blk_lt hT.blk
  have b0 := blk_cell hT.blk 0
  have b1 := blk_cell hT.blk 1
  simp only [List.getElem?_toArray, List.getElem?_cons_zero, List.getElem?_cons_succ] at b0 b1
  have hh := key.hash_in
  have hash := hidden (fun W => value_Hash key W hk)
  have hen := hs.many
  simp only at hen
  clear hT hs hk
  refine post_gen fun R hR => ?_
  by_cases h0 : S.length = 0
  · have hfe : findT ⟨E, S, live, used, ser⟩ key = (0, false) := if_pos h0
    rw [hfe] at hR
    rw [h0] at b1
    clear hh hash
    unfold V.val
    go_enter Try.func60, Try.ntmps60
    go_wp2_with fail
    exact hR.out _ _ ⟨rfl, (Keeps.refl _ _).alloc _⟩
  · have hfe : findT ⟨E, S, live, used, ser⟩ key = probe E S key (keyHash key) S.length 0 none := if_neg h0
    rw [hfe] at hR
    clear hfe
    obtain ⟨m, hm, hn⟩ := HS.out.two.resolve_left h0
    simp only at hn
    have hn2 : S.length ≤ 1073741824 := by rw [hn]; exact Nat.pow_le_pow_right (by decide) hm
    have hpos : 0 < S.length := by omega
    obtain ⟨H, hH⟩ : ∃ H : Nat, key.hash = (H : Int) := ⟨key.hash.toNat, by omega⟩
    have hH2 : keyHash key = H / 2 := by rw [keyHash, hH]; rfl
    have hH3 : H < 18446744073709551616 := by omega
    rw [hH2] at hR
    rw [hH] at hash
    have hw0 : IntKind.i64.wrap ((H : Int) / 2) = ((H / 2 : Nat) : Int) := by rw [IntKind.wrap_i64]; omega
    have hw1 := mask_nat (H / 2) S.length m hm hn (by omega)
    have hw2 : IntKind.i64.wrap ((S.length : Int) - 1) = (S.length : Int) - 1 := by rw [IntKind.wrap_i64]; omega
    have hz0 : ((S.length : Int) == 0) = false := by rw [beq_eq_false_iff_ne]; omega
    have hz1 : ¬ (S.length : Int) = 0 := by omega
    have hz2 : ¬ S = [] := fun e => h0 (by rw [e]; rfl)
    have HN := hidden hn
    clear hH hH2 hh hn
    have HK0 := hidden (show Keeps (fun _ => False) w (w.alloc (.cells #[.int .i64 key.k, .int .i64 key.n, .string key.t] 29)) from (Keeps.refl _ w).alloc _)
    have VK0 := hidden (IsVar.new w key)
    unfold V.val at *
    go_enter Try.func60, Try.ntmps60
    go_wp2_with fail
    refine (hash.out _).mono ?_
    rintro e w1 ⟨rfl, hK⟩
    have VK1 := hidden (show IsVar w1 w.heap.size key from hK.heap VK0.out (fun h => h))
    have HK1 := hidden (HK0.out.trans hK (fun _ _ h => h))
    clear hK hash
    have TT1 := hidden (HT.out.none HK1.out)
    have c0 := blk_cell TT1.out.blk 0
    have c1 := blk_cell TT1.out.blk 1
    simp only [List.getElem?_toArray, List.getElem?_cons_zero, List.getElem?_cons_succ] at c0 c1
    obtain ⟨i0, hi0⟩ : ∃ i0 : Nat, i0 = (H / 2 + 0) % S.length := ⟨_, rfl⟩
    have HI0 := hidden hi0
    have hi1 : i0 < S.length := by rw [hi0]; exact Nat.mod_lt _ hpos
    have hw3 : bits .and .i64 ((H : Int) / 2) ((S.length : Int) - 1) = (i0 : Int) := by rw [hi0, Nat.add_zero, ← hw1, Int.natCast_ediv]; rfl
    clear hi0 hw1
    have NX := hidden (fun (i : Nat) (hi : i < S.length) => mask_nat (i + 1) S.length m hm HN.out (by omega))
    go_wp2_with fail
    clear hw3 hw0 c0 c1 b0 b1
    go_loopw [7, 8, 9] (fun f i n wr => ∃ (d : Nat) (fo : Option Nat) (j : Nat), d ≤ S.length ∧ Hid (j = (H / 2 + d) % S.length) ∧ j < S.length ∧ i = .int .i64 j ∧ n = .int .i64 d ∧ f = .int .i64 (first fo) ∧ Hid (probe E S key (H / 2) S.length 0 none = probe E S key (H / 2) (S.length - d) d fo) ∧ Keeps (fun _ => False) w1 wr) (fun _ _ n _ => S.length - (intOf n).toNat)
    case atStart => exact ⟨0, none, i0, Nat.zero_le _, HI0, hi1, rfl, rfl, rfl, hidden rfl, Keeps.refl _ _⟩
    case round =>
      obtain ⟨d, fo, j, hd, HJ, hj, rfl, rfl, rfl, HP, hK⟩ := hrel
      have HKr := hidden hK
      have TTr := hidden (TT1.out.none hK)
      have c0 := blk_cell TTr.out.blk 0
      have c1 := blk_cell TTr.out.blk 1
      simp only [List.getElem?_toArray, List.getElem?_cons_zero, List.getElem?_cons_succ] at c0 c1
      have hbr := blk_lt TTr.out.blk
      by_cases hlt : d < S.length
      · obtain ⟨gs, os, rfl, hs0⟩ := Ints.own TTr.out.slots.1 j S[j] (List.getElem?_eq_getElem hj)
        have hgs := World.block_lt_of_cell? wr _ hs0
        have hsj := HS.out.inE j S[j] (List.getElem?_eq_getElem hj)
        simp only at hsj
        have HG := hidden (show S.getD j 0 = S[j] by rw [List.getD_eq_getElem?_getD, List.getElem?_eq_getElem hj]; rfl)
        have HST := hidden (probe_step (E := E) (S := S) (key := key) (h := H / 2) (m := S.length - d - 1) (d := d) (f := fo) HJ.out.symm)
        have hnx := NX.out j hj
        obtain ⟨j2, hj2⟩ : ∃ j2 : Nat, j2 = (j + 1) % S.length := ⟨_, rfl⟩
        rw [← hj2] at hnx
        have HJ2 := hidden (show j2 = (H / 2 + (d + 1)) % S.length by rw [hj2, HJ.out, Nat.mod_add_mod, Nat.add_assoc])
        have hj3 : j2 < S.length := by rw [hj2]; exact Nat.mod_lt _ hpos
        have hnx2 : bits .and .i64 ((j : Int) + 1) ((S.length : Int) - 1) = (j2 : Int) := by rw [← hnx]; rfl
        clear hnx hj2 hK
        have hsd : S.length - d = S.length - d - 1 + 1 := by omega
        have hp2 := HP.out
        rw [hsd, HST.out, HG.out] at hp2
        have HP2 := hidden hp2
        clear hsd hp2 HST HP
        generalize S[j] = s at *
        have hmd : S.length - d - 1 = S.length - (d + 1) := by omega
        rw [hmd] at HP2
        clear hmd HG
        have hdw : IntKind.i64.wrap ((d : Int) + 1) = (d : Int) + 1 := by rw [IntKind.wrap_i64]; omega
        have hjw : IntKind.i64.wrap ((j : Int) + 1) = (j : Int) + 1 := by rw [IntKind.wrap_i64]; omega
        rcases hsj with rfl | rfl | ⟨hs1, hs2⟩
        · have hp3 := HP2.out
          rw [if_pos rfl] at hp3
          have HP3 := hidden hp3
          clear hp3 HP2
          cases fo with
          | none =>
            simp only [first]
            go_wp2_with fail
            exact hR.out _ _ ⟨by rw [HP3.out]; rfl, HK1.out.trans HKr.out (fun _ _ h => h)⟩
          | some x =>
            simp only [first]
            have hx : ¬ ((x : Int) < 0) := by omega
            go_wp2_with fail
            exact hR.out _ _ ⟨by rw [HP3.out]; rfl, HK1.out.trans HKr.out (fun _ _ h => h)⟩
        · have hp3 := HP2.out
          rw [if_neg (by decide), if_pos rfl] at hp3
          have HP3 := hidden hp3
          clear hp3 HP2
          cases fo with
          | none =>
            simp only [first]
            go_wp2_with fail
            go_roundw
            case rel => exact ⟨d + 1, some j, j2, hlt, HJ2, hj3, by go_num, by go_num, rfl, HP3, HKr.out⟩
            case measure => simp [intOf]; omega
          | some x =>
            simp only [first]
            have hx : ¬ ((x : Int) < 0) := by omega
            go_wp2_with fail
            go_roundw
            case rel => exact ⟨d + 1, some x, j2, hlt, HJ2, hj3, by go_num, by go_num, rfl, HP3, HKr.out⟩
            case measure => simp [intOf]; omega
        · obtain ⟨q, rfl⟩ : ∃ q : Nat, s = (q : Int) + 1 := ⟨(s - 1).toNat, by omega⟩
          have hq : q < E.length := by omega
          obtain ⟨ge, oe, rfl, hea⟩ := Ents.own TTr.out.ents.1 q E[q] (List.getElem?_eq_getElem hq)
          obtain ⟨e0, e1, e2, -, -, -, -, -⟩ := hea
          have hge := World.block_lt_of_cell? wr _ e0
          obtain ⟨k0, k1, k2, -⟩ := (VK1.out.keeps HKr.out (fun h => h)).cells
          have hvk := blk_lt (VK1.out.keeps HKr.out (fun h => h))
          have hq1 : IntKind.i64.wrap ((q : Int) + 1 - 1) = (q : Int) := by rw [IntKind.wrap_i64]; omega
          have hq2 : ((q : Int) + 1).toNat - 1 = q := by omega
          have hp3 := HP2.out
          rw [if_neg (by omega), if_neg (by omega), hq2] at hp3
          have HP3 := hidden hp3
          have HX := hidden (show E[q]? = some E[q] from List.getElem?_eq_getElem hq)
          clear hp3 HP2 hq2
          have hb1 : ((q : Int) + 1 == 0) = false := by rw [beq_eq_false_iff_ne]; omega
          have hb2 : ((q : Int) + 1 == -1) = false := by rw [beq_eq_false_iff_ne]; omega
          generalize E[q] = x at *
          by_cases hx : x.key = key
          · have hp4 := HP3.out
            rw [if_pos (key_some HX.out hx)] at hp4
            have HP4 := hidden hp4
            rw [hx] at e0 e1 e2
            clear hp4 HP3 hx
            go_wp2_with fail
            go_quiet (fail)
            go_wp2_with fail
            exact hR.out _ _ ⟨by rw [HP4.out]; rfl, (HK1.out.trans HKr.out (fun _ _ h => h)).drewN _⟩
          · have hp4 := HP3.out
            rw [if_neg (key_none HX.out hx)] at hp4
            have HP4 := hidden hp4
            clear hp4 HP3
            rcases V.ne_cases' hx with d0 | ⟨d0, d1⟩ | ⟨d0, d1, d2⟩
            all_goals
              clear hx
              try (rw [← d0] at e0; clear d0)
              try (rw [← d1] at e1; clear d1)
              try have d3 := fun e => d0 (Eq.symm e)
              try have d4 := fun e => d1 (Eq.symm e)
              try have d5 := fun e => d2 (Eq.symm e)
              try have d6 := beq_eq_false_iff_ne.2 d4
              try have d7 := beq_eq_false_iff_ne.2 d5
              try have d8 : (x.key.t == key.t) = false := by rw [beq_eq_false_iff_ne]; intro e; exact d5 (by rw [e])
              try have d9 : ¬ x.key.t = key.t := by intro e; exact d5 (by rw [e])
              have hq4 : (q : Int) < (E.length : Int) := by omega
              have hq5 : (0 : Int) ≤ (q : Int) := by omega
              go_wp2_with fail
              go_quiet (fail)
              go_wp2_with fail
              go_roundw
              case rel => exact ⟨d + 1, fo, j2, hlt, HJ2, hj3, by go_num, by go_num, rfl, HP4, HKr.out.drewN _⟩
              case measure => simp [intOf]; omega
      · obtain rfl : d = S.length := by omega
        have hp2 := HP.out
        rw [Nat.sub_self, probe] at hp2
        have HP2 := hidden hp2
        clear hp2 HP
        cases fo with
        | none =>
          simp only [first]
          go_wp2_with fail
          exact hR.out _ _ ⟨by rw [HP2.out]; rfl, HK1.out.trans HKr.out (fun _ _ h => h)⟩
        | some x =>
          simp only [first]
          have hx : ¬ ((x : Int) < 0) := by omega
          have hx2 : max (x : Int) 0 = x := by omega
          go_wp2_with fail
          exact hR.out _ _ ⟨by rw [HP2.out]; rfl, HK1.out.trans HKr.out (fun _ _ h => h)⟩
end Go.Proofs.Ytmefdniocgcckaa
/- Layer 5: tables: rows of entries stored into; what is gone left out. -/
namespace Go.Proofs.Ytmefdniocgcckaa
open Go.RowKit
set_option maxRecDepth 100000

theorem info_ent : (Try.prog.info? 95).map (fun i => (i.zero, i.size, i.bytes)) = some (some (.agg #[.int .i64 0, .int .i64 0, .string ⟨#[]⟩, .int .i64 0, .int .i64 0, .string ⟨#[]⟩, .int .i64 0, .bool false]), 8, 80) := by kernel_rfl
def Ent.agg (e : Ent) : Value := .agg #[.int .i64 e.key.k, .int .i64 e.key.n, .string e.key.t, .int .i64 e.val.k, .int .i64 e.val.n, .string e.val.t, .int .i64 e.ser, .bool e.gone]
def Ent.obj (e : Ent) : Obj := .cells #[.int .i64 e.key.k, .int .i64 e.key.n, .string e.key.t, .int .i64 e.val.k, .int .i64 e.val.n, .string e.val.t, .int .i64 e.ser, .bool e.gone] 95 (0, 0)
theorem rehash_gone (w : World) (x : Ent) : Calls Try.prog 74 #[x.agg] w fun e w' => e = .returned (.bool x.gone) ∧ Keeps (fun _ => False) w w' := by
  obtain ⟨k, v, s, g⟩ := x
  unfold Ent.agg
  refine post_gen fun R hR => ?_
  go_enter Try.func74, Try.ntmps74
  go_wp2
  exact hR.out _ _ ⟨rfl, (Keeps.refl _ _).alloc _⟩
def firstGone (E : List Ent) : Int := if E.any (·.gone) then (E.findIdx (·.gone) : Int) else -1
theorem take_none {E : List Ent} {k : Nat} (hk : k < E.length) (h : (E.take k).any (·.gone) = false) : (E.take (k + 1)).any (·.gone) = E[k].gone := by
  rw [List.take_succ_eq_append_getElem hk, List.any_append, h]; simp
theorem firstGone_at {E : List Ent} {k : Nat} (hk : k < E.length) (h : (E.take k).any (·.gone) = false) (hg : E[k].gone = true) : firstGone E = k := by
  have h1 : E.any (·.gone) = true := List.any_eq_true.2 ⟨_, List.getElem_mem hk, hg⟩
  rw [firstGone, if_pos h1]
  have : E.findIdx (·.gone) = k := by
    rw [List.findIdx_eq hk]
    refine ⟨hg, fun j hj => ?_⟩
    have h2 := List.any_eq_false.1 h
    have h3 : E[j] ∈ E.take k := List.mem_take_iff_getElem.2 ⟨j, by omega, rfl⟩
    simpa using h2 _ h3
  rw [this]
theorem firstGone_none {E : List Ent} (h : E.any (·.gone) = false) : firstGone E = -1 := by
  rw [firstGone, h]; rfl
set_option maxHeartbeats 1000000 in
theorem index_gone (w : World) (A : Option Addr) (c : Nat) (E : List Ent) (h : Ents w A E) (hl : E.length ≤ 1073741824) :
    Calls Try.prog 82 #[.slice A E.length c, .func (.func 74) #[] #[]] w fun e w' => e = .returned (.int .i64 (firstGone E)) ∧ Keeps (fun _ => False) w w' := by
  have HV := hidden h
  clear h
  refine post_gen fun R hR => ?_
  go_enter Try.func82, Try.ntmps82
  go_wp2
  go_loopw [8] (fun i wr => ∃ k : Nat, k ≤ E.length ∧ i = .int .i64 k ∧ Hid ((E.take k).any (·.gone) = false) ∧ Keeps (fun _ => False) w wr) (fun i _ => E.length - (intOf i).toNat)
  case atStart => exact ⟨0, Nat.zero_le _, rfl, hidden rfl, Keeps.refl _ _⟩
  case round =>
    obtain ⟨k, hk, rfl, HN, hK⟩ := hrel
    have HK := hidden hK
    by_cases hlt : k < E.length
    · obtain ⟨ge, oe, rfl, hea⟩ := (HV.out.keeps hK (fun _ _ _ _ h => h)) k E[k] (List.getElem?_eq_getElem hlt)
      obtain ⟨e0, e1, e2, e3, e4, e5, e6, e7⟩ := hea
      have hge := World.block_lt_of_cell? wr _ e0
      have HS := hidden (take_none hlt HN.out)
      have HF := hidden (firstGone_at hlt HN.out)
      have key := hidden (fun W => rehash_gone W E[k])
      unfold Ent.agg at key
      cases hg : E[k].gone with
      | true =>
        rw [hg] at e7
        simp only [hg] at key
        have HF2 := hidden (HF.out hg)
        clear HF
        clear hK
        generalize E[k] = x at *
        go_wp2_with fail
        refine (key.out _).mono ?_
        rintro e w1 ⟨rfl, hK⟩
        have HK1 := hidden (HK.out.trans hK (fun _ _ h => h))
        clear hK
        go_wp2_with fail
        exact hR.out _ _ ⟨show Ending.returned (.int .i64 _) = .returned (.int .i64 _) from ret_int HF2.out.symm, HK1.out⟩
      | false =>
        rw [hg] at e7
        simp only [hg] at key
        have HS2 := hidden (HS.out.trans hg)
        clear HS
        clear hK HF
        generalize E[k] = x at *
        go_wp2_with fail
        refine (key.out _).mono ?_
        rintro e w1 ⟨rfl, hK⟩
        have HK1 := hidden (HK.out.trans hK (fun _ _ h => h))
        clear hK
        go_wp2_with fail
        go_roundw
        case rel => exact ⟨k + 1, hlt, by go_num, HS2, HK1.out⟩
        case measure => simp [intOf]; omega
    · obtain rfl : k = E.length := by omega
      have hn := HN.out
      rw [List.take_length] at hn
      have HF := hidden (firstGone_none hn)
      clear hn
      go_wp2_with fail
      exact hR.out _ _ ⟨show Ending.returned (.int .i64 _) = .returned (.int .i64 _) from ret_int HF.out.symm, HK.out⟩

def put8 (w : World) (g i : Nat) (y : Ent) : World :=
  (((((((w.setCell ⟨g, i * 8, none⟩ (.int .i64 y.key.k)).setCell ⟨g, i * 8 + 1, none⟩ (.int .i64 y.key.n)).setCell ⟨g, i * 8 + 2, none⟩ (.string y.key.t)).setCell ⟨g, i * 8 + 3, none⟩ (.int .i64 y.val.k)).setCell ⟨g, i * 8 + 4, none⟩ (.int .i64 y.val.n)).setCell ⟨g, i * 8 + 5, none⟩ (.string y.val.t)).setCell ⟨g, i * 8 + 6, none⟩ (.int .i64 y.ser)).setCell ⟨g, i * 8 + 7, none⟩ (.bool y.gone)
theorem flatE_set (E : List Ent) (y : Ent) : ∀ i, i < E.length → ((((((((flatE E).set (i * 8) (.int .i64 y.key.k)).set (i * 8 + 1) (.int .i64 y.key.n)).set (i * 8 + 2) (.string y.key.t)).set (i * 8 + 3) (.int .i64 y.val.k)).set (i * 8 + 4) (.int .i64 y.val.n)).set (i * 8 + 5) (.string y.val.t)).set (i * 8 + 6) (.int .i64 y.ser)).set (i * 8 + 7) (.bool y.gone) = flatE (E.set i y) := by
  induction E with
  | nil => intro i h; simp at h
  | cons x xs ih =>
    intro i hi
    have e : flatE (x :: xs) = x.cells ++ flatE xs := by simp [flatE]
    cases i with
    | zero =>
      rw [e]
      simp [Ent.cells, flatE]
    | succ i =>
      have e2 : flatE ((x :: xs).set (i + 1) y) = x.cells ++ flatE (xs.set i y) := by simp [flatE]
      have h8 : x.cells.length = 8 := rfl
      have k : ∀ (L : List Value) (j : Nat) (v : Value), (x.cells ++ L).set ((i + 1) * 8 + j) v = x.cells ++ L.set (i * 8 + j) v := fun L j v => by
        rw [List.set_append_right _ _ (by rw [h8]; omega), h8]
        congr 2
        omega
      have k0 : ∀ (L : List Value) (v : Value), (x.cells ++ L).set ((i + 1) * 8) v = x.cells ++ L.set (i * 8) v := fun L v => k L 0 v
      rw [e, e2, k0, k, k, k, k, k, k, k, ih i (by simpa using hi)]
theorem Row.open8 {w : World} {F : Nat → Prop} {n c : Nat} {A : Option Addr} {E : List Ent} (h : Row w F 95 8 (.slice A n c) n (flatE E)) {i : Nat} (hi : i < E.length) : ∃ g, A = some ⟨g, 0, none⟩ ∧ F g ∧ g < w.heap.size ∧ EntAt w g 0 i E[i] ∧ ∀ j, w.frozen? ⟨g, j, none⟩ = false := by
  obtain ⟨b, o, rfl, hx⟩ := Ents.own h.1 i E[i] (by simp [hi])
  have ho : o = 0 := by
    rcases h.1.2 with ⟨he, _⟩ | ⟨g, cap, cur, he, _⟩
    · simp at he
    · simp at he; exact he.1.2
  subst ho
  exact ⟨b, rfl, h.2 b rfl, World.block_lt_of_cell? w _ hx.c0, hx, fun j => h.1.frozenAt _⟩
theorem Row.put8 {w : World} {F : Nat → Prop} {n c g : Nat} {E : List Ent} (h : Row w F 95 8 (.slice (some ⟨g, 0, none⟩) n c) n (flatE E)) {i : Nat} (hi : i < E.length) (y : Ent) :
    Row (put8 w g i y) F 95 8 (.slice (some ⟨g, 0, none⟩) n c) n (flatE (E.set i y)) := by
  have h3 := (((((((h.1.stored (i * 8) (.int .i64 y.key.k)).1.stored (i * 8 + 1) (.int .i64 y.key.n)).1.stored (i * 8 + 2) (.string y.key.t)).1.stored (i * 8 + 3) (.int .i64 y.val.k)).1.stored (i * 8 + 4) (.int .i64 y.val.n)).1.stored (i * 8 + 5) (.string y.val.t)).1.stored (i * 8 + 6) (.int .i64 y.ser)).1.stored (i * 8 + 7) (.bool y.gone)
  rw [flatE_set E y i hi] at h3
  exact ⟨h3.1, h.2⟩
theorem SameBut.put8 {b : Nat} {w1 w2 : World} (h : SameBut b w1 w2) (i : Nat) (y : Ent) : SameBut b w1 (put8 w2 b i y) := (((((((h.set _ _).set _ _).set _ _).set _ _).set _ _).set _ _).set _ _).set _ _
end Go.Proofs.Ytmefdniocgcckaa
/- Layer 5: slices.DeleteFunc over entries that are gone. -/
namespace Go.Proofs.Ytmefdniocgcckaa
open Go.RowKit
set_option maxRecDepth 100000

def stay (E : List Ent) : List Ent := E.filter (fun e => !e.gone)
theorem stay_take {E : List Ent} {p : Nat} (hp : p < E.length) : stay (E.take (p + 1)) = stay (E.take p) ++ (if E[p].gone then [] else [E[p]]) := by
  rw [List.take_succ_eq_append_getElem hp, stay, List.filter_append]
  congr 1
  cases hg : E[p].gone <;> simp [hg]
theorem stay_le (E : List Ent) (p : Nat) : (stay (E.take p)).length ≤ p := by
  have := List.length_filter_le (fun e : Ent => !e.gone) (E.take p)
  simp only [stay]
  have h2 : (E.take p).length ≤ p := by simp; omega
  omega
theorem stay_none {E : List Ent} (h : E.any (·.gone) = false) : stay E = E := by
  rw [stay, List.filter_eq_self]
  intro x hx
  have := List.any_eq_false.1 h x hx
  simpa using this
/-- A variable of an entry's type, at block r. -/
def IsEnt (w : World) (r : Nat) (e : Ent) : Prop := w.heap[r]? = some e.obj
/-- What the row holds while it is gone through: what stays of the first p, and behind it what stood there. -/
def mixed (E : List Ent) (p : Nat) : List Ent := stay (E.take p) ++ E.drop (stay (E.take p)).length
theorem mixed_length (E : List Ent) (p : Nat) (hp : p ≤ E.length) : (mixed E p).length = E.length := by
  have := stay_le E p
  simp [mixed]; omega
theorem mixed_at {E : List Ent} {p : Nat} (hp : p < E.length) : (mixed E p)[p]? = some E[p] := by
  have h := stay_le E p
  rw [mixed, List.getElem?_append_right h, List.getElem?_drop]
  rw [show (stay (E.take p)).length + (p - (stay (E.take p)).length) = p by omega, List.getElem?_eq_getElem hp]
theorem mixed_gone {E : List Ent} {p : Nat} (hp : p < E.length) (hg : E[p].gone = true) : mixed E (p + 1) = mixed E p ∧ (stay (E.take (p + 1))).length = (stay (E.take p)).length := by
  have h : stay (E.take (p + 1)) = stay (E.take p) := by rw [stay_take hp, hg]; simp
  rw [mixed, mixed, h]
  exact ⟨rfl, rfl⟩
theorem mixed_stay {E : List Ent} {p : Nat} (hp : p < E.length) (hg : E[p].gone = false) : (mixed E p).set (stay (E.take p)).length E[p] = mixed E (p + 1) ∧ (stay (E.take (p + 1))).length = (stay (E.take p)).length + 1 := by
  have h : stay (E.take (p + 1)) = stay (E.take p) ++ [E[p]] := by rw [stay_take hp, hg]; rfl
  have hle := stay_le E p
  rw [mixed, mixed, h]
  refine ⟨?_, by simp⟩
  rw [List.set_append_right _ _ (Nat.le_refl _), Nat.sub_self, List.length_append]
  rw [List.append_assoc]
  congr 1
  rw [List.drop_eq_getElem_cons (by omega : (stay (E.take p)).length < E.length)]
  rfl
theorem stay_first {E : List Ent} (h : E.any (·.gone) = true) : ∃ k : Nat, k < E.length ∧ firstGone E = k ∧ stay (E.take (k + 1)) = E.take k ∧ mixed E (k + 1) = E ∧ (stay E).length < E.length := by
  have hk : E.findIdx (·.gone) < E.length := List.findIdx_lt_length.2 (by obtain ⟨x, hx, hg⟩ := List.any_eq_true.1 h; exact ⟨x, hx, hg⟩)
  have hg : E[E.findIdx (·.gone)].gone = true := List.findIdx_getElem (w := hk)
  have hn : (E.take (E.findIdx (·.gone))).any (·.gone) = false := by
    rw [List.any_eq_false]
    intro x hx
    obtain ⟨j, hj, rfl⟩ := List.mem_take_iff_getElem.1 hx
    have hj2 : j < E.findIdx (·.gone) := by omega
    have := List.not_of_lt_findIdx hj2
    simpa using this
  refine ⟨_, hk, by rw [firstGone, if_pos h], ?_, ?_, ?_⟩
  · rw [stay_take hk, hg, stay_none hn]; simp
  · have e : stay (E.take (E.findIdx (·.gone) + 1)) = E.take (E.findIdx (·.gone)) := by rw [stay_take hk, hg, stay_none hn]; simp
    rw [mixed, e]
    have : (E.take (E.findIdx (·.gone))).length = E.findIdx (·.gone) := by simp; omega
    rw [this, List.take_append_drop]
  · have h1 := stay_le E E.length
    have h2 := (mixed_gone hk hg).2
    have e : stay E = stay (E.take E.length) := by rw [List.take_length]
    have mono : ∀ p q : Nat, p ≤ q → q ≤ E.length → (stay (E.take q)).length ≤ (stay (E.take p)).length + (q - p) := by
      intro p q hpq
      induction q with
      | zero => intro _; simp at hpq; subst hpq; simp
      | succ q ih =>
        intro hq
        by_cases h : p = q + 1
        · subst h; simp
        · have := ih (by omega) (by omega)
          rw [stay_take (by omega), List.length_append]
          split <;> simp <;> omega
    have h3 := mono (E.findIdx (·.gone) + 1) E.length (by omega) (Nat.le_refl _)
    have h4 := stay_le E (E.findIdx (·.gone))
    rw [e]
    omega

theorem zeros_ent (k : Nat) : (Builtin.zeroCells (Value.agg #[.int .i64 0, .int .i64 0, .string ⟨#[]⟩, .int .i64 0, .int .i64 0, .string ⟨#[]⟩, .int .i64 0, .bool false]).cells k).toList.length = k * 8 := by simp [Builtin.zeroCells, Value.cells]
theorem laid_take' {L : List Value} {o : Nat} {cs : List Value} (h : o ≤ L.length) : (laid L o cs).toList.take o = L.take o := by
  show (List.toArray _).toList.take o = _
  rw [List.toList_toArray, List.append_assoc, List.take_append_of_le_length (by rw [List.length_take]; omega), List.take_take, Nat.min_self]
set_option maxHeartbeats 4000000 in
theorem delete_gone (w : World) (F : Nat → Prop) (A : Option Addr) (c : Nat) (E : List Ent) (h : Row w F 95 8 (.slice A E.length c) E.length (flatE E)) (hl : E.length ≤ 1073741824) :
    Calls Try.prog 73 #[.slice A E.length c, .func (.func 74) #[] #[]] w fun e w' => e = .returned (.slice A (stay E).length c) ∧ Row w' F 95 8 (.slice A (stay E).length c) (stay E).length (flatE (stay E)) ∧ Keeps (fun k => (Value.slice A E.length c).ownBlock = some k) w w' := by
  have H := hidden h
  have key := hidden (index_gone w A c E (Ents.own h.1) hl)
  clear h
  refine post_gen fun R hR => ?_
  cases hany : E.any (·.gone) with
  | false =>
    have hs := stay_none hany
    rw [hs] at hR
    rw [firstGone_none hany] at key
    clear hany
    go_enter Try.func73, Try.ntmps73
    go_wp2_with fail
    refine key.out.mono ?_
    rintro e w1 ⟨rfl, hK⟩
    have HK := hidden hK
    clear hK
    go_wp2_with fail
    exact hR.out _ _ ⟨rfl, H.out.keeps HK.out (Apart.no _), HK.out.mono (fun _ _ h => h.elim)⟩
  | true =>
    obtain ⟨k, hk, hf, hsk, hmx, hlt0⟩ := stay_first hany
    rw [hf] at key
    clear hany hf
    obtain ⟨g, cur0, rfl, hFg, hg0, hnc, hcm, hcs0, htk0⟩ := H.out.blk (by omega)
    clear hg0 hcs0 htk0
    have HSK := hidden hsk
    have HMX := hidden hmx
    have hlk : (stay (E.take (k + 1))).length = k := by rw [hsk]; simp; omega
    have hkw : IntKind.i64.wrap ((k : Int) + 1) = (k : Int) + 1 := by rw [IntKind.wrap_i64]; omega
    have hk1 : ((k : Int) == -1) = false := by rw [beq_eq_false_iff_ne]; omega
    have HLK := hidden hlk
    clear hsk hmx hlk
    go_enter Try.func73, Try.ntmps73
    go_wp2_with fail
    refine key.out.mono ?_
    rintro e w1 ⟨rfl, hK⟩
    have HK1 := hidden hK
    have HR1 := hidden (H.out.keeps hK (Apart.no _))
    clear hK key
    go_wp2_with fail
    go_loopw [5, 6] (fun i j wr => ∃ (a p : Nat), p ≤ E.length ∧ a ≤ p ∧ a = (stay (E.take p)).length ∧ i = .int .i64 a ∧ j = .int .i64 p ∧ Row wr F 95 8 (.slice (some ⟨g, 0, none⟩) E.length c) E.length (flatE (mixed E p)) ∧ Keeps (fun j => j = g) w wr) (fun _ j _ => E.length - (intOf j).toNat)
    case atStart =>
      refine ⟨k, k + 1, hk, by omega, HLK.out.symm, rfl, by go_num, ?_, HK1.out.mono (fun _ _ h => h.elim)⟩
      rw [HMX.out]
      exact HR1.out
    case round =>
      obtain ⟨a, p, hp, hap, ha, rfl, rfl, hrow, hK⟩ := hrel
      have HR := hidden hrow
      have HA := hidden ha
      have HK := hidden hK
      have hml := mixed_length E p hp
      clear ha
      by_cases hlt : p < E.length
      · obtain ⟨ge, oe, he0, hea⟩ := Ents.own hrow.1 p E[p] (mixed_at hlt)
        simp at he0
        obtain ⟨rfl, rfl⟩ := he0
        obtain ⟨g', he0, -, hgw, -, hfz⟩ := hrow.open8 (i := a) (by omega)
        simp at he0
        subst he0
        obtain ⟨e0, e1, e2, e3, e4, e5, e6, e7⟩ := hea
        obtain ⟨g', he0, -, -, ⟨q0, q1, q2, q3, q4, q5, q6, q7⟩, -⟩ := hrow.open8 (i := a) (by omega)
        simp at he0
        subst he0
        simp only [Nat.zero_add] at e0 e1 e2 e3 e4 e5 e6 e7 q0 q1 q2 q3 q4 q5 q6 q7
        have f0 := hfz (a * 8)
        have f1 := hfz (a * 8 + 1)
        have f2 := hfz (a * 8 + 2)
        have f3 := hfz (a * 8 + 3)
        have f4 := hfz (a * 8 + 4)
        have f5 := hfz (a * 8 + 5)
        have f6 := hfz (a * 8 + 6)
        have f7 := hfz (a * 8 + 7)
        have hmg := hidden (fun h => mixed_gone hlt h)
        have hms := hidden (fun h => mixed_stay hlt h)
        have keyc := hidden (fun W => rehash_gone W E[p])
        unfold Ent.agg at keyc
        have hpw : IntKind.i64.wrap ((p : Int) + 1) = (p : Int) + 1 := by rw [IntKind.wrap_i64]; omega
        have haw : IntKind.i64.wrap ((a : Int) + 1) = (a : Int) + 1 := by rw [IntKind.wrap_i64]; omega
        have hal : a < E.length := by omega
        clear hrow hK hfz
        generalize hy : (mixed E p)[a] = y at *
        cases hg : E[p].gone with
        | true =>
          rw [hg] at e7
          simp only [hg] at keyc
          have hm2 := hmg.out hg
          have HM1 := hidden hm2.1
          have HM2 := hidden hm2.2
          clear hm2 hmg hms hg hy
          generalize E[p] = x at *
          go_wp2_with fail
          refine (keyc.out _).mono ?_
          rintro e w2 ⟨rfl, hK⟩
          have HK2 := hidden (show Keeps (fun _ => False) wr w2 from ((Keeps.refl _ wr).alloc _).trans hK (fun _ _ h => h))
          clear hK
          go_wp2_with fail
          go_roundw
          case rel => exact ⟨a, p + 1, hlt, by omega, by rw [HM2.out]; exact HA.out, rfl, by go_num, by rw [HM1.out]; exact HR.out.keeps HK2.out (Apart.no _), HK.out.trans HK2.out (fun _ _ h => h.elim)⟩
          case measure => simp [intOf]; omega
        | false =>
          rw [hg] at e7
          simp only [hg] at keyc
          have hm2 := hms.out hg
          rw [← HA.out] at hm2
          have HM1 := hidden hm2.1
          have HM2 := hidden hm2.2
          clear hm2 hmg hms hy
          generalize E[p] = x at *
          obtain ⟨xk, xv, xs, xg⟩ := x
          simp only at *
          subst hg
          have HB := hidden (show IsEnt (wr.alloc (Ent.obj ⟨xk, xv, xs, false⟩)) wr.heap.size ⟨xk, xv, xs, false⟩ from blk_new _ _)
          go_wp2_with fail
          refine (keyc.out _).mono ?_
          rintro e w2 ⟨rfl, hK⟩
          have HK2 := hidden (show Keeps (fun _ => False) wr w2 from ((Keeps.refl _ wr).alloc _).trans hK (fun _ _ h => h))
          have HB2 := hidden (show IsEnt w2 wr.heap.size ⟨xk, xv, xs, false⟩ from hK.heap HB.out (fun h => h))
          have x0 := blk_cell HB2.out 0
          have x1 := blk_cell HB2.out 1
          have x2 := blk_cell HB2.out 2
          have x3 := blk_cell HB2.out 3
          have x4 := blk_cell HB2.out 4
          have x5 := blk_cell HB2.out 5
          have x6 := blk_cell HB2.out 6
          have x7 := blk_cell HB2.out 7
          simp only [List.getElem?_toArray, List.getElem?_cons_zero, List.getElem?_cons_succ] at x0 x1 x2 x3 x4 x5 x6 x7
          have hbx := blk_lt HB2.out
          have HR2 := hidden (HR.out.keeps HK2.out (Apart.no _))
          clear e0 e1 e2 e3 e4 e5 e6 e7 q0 q1 q2 q3 q4 q5 q6 q7 f0 f1 f2 f3 f4 f5 f6 f7 hK keyc
          obtain ⟨g', he0, -, hgw2, ⟨q0, q1, q2, q3, q4, q5, q6, q7⟩, hfz⟩ := HR2.out.open8 (i := a) (by omega)
          simp at he0
          subst he0
          simp only [Nat.zero_add] at q0 q1 q2 q3 q4 q5 q6 q7
          have f0 := hfz (a * 8)
          have f1 := hfz (a * 8 + 1)
          have f2 := hfz (a * 8 + 2)
          have f3 := hfz (a * 8 + 3)
          have f4 := hfz (a * 8 + 4)
          have f5 := hfz (a * 8 + 5)
          have f6 := hfz (a * 8 + 6)
          have f7 := hfz (a * 8 + 7)
          clear hfz
          have HT := hidden (HR2.out.put8 (i := a) (by omega) ⟨xk, xv, xs, false⟩)
          rw [HM1.out] at HT
          have HKT := hidden (HK.out.trans (HK2.out.mono (T := fun j => j = g) (fun _ _ h => h.elim)) (fun _ _ h => h))
          have HKU := hidden (HKT.out.trans (((SameBut.refl g w2).put8 a ⟨xk, xv, xs, false⟩).keeps) (fun _ _ h => h))
          go_wp2_with fail
          go_roundw
          case rel => exact ⟨a + 1, p + 1, hlt, by omega, by rw [HM2.out], by go_num, by go_num, HT.out, HKU.out⟩
          case measure => simp [intOf]; omega
      · obtain rfl : p = E.length := by omega
        have hst : stay (E.take E.length) = stay E := by rw [List.take_length]
        have ha2 := HA.out
        rw [hst] at ha2
        have HA2 := hidden ha2
        have hr2 := HR.out
        obtain ⟨g', cur, he0, -, hg1, -, -, hcs, htk⟩ := hr2.blk (by omega)
        simp at he0
        subst he0
        have HG := hidden hg1
        have HTK := hidden htk
        have hcs' : cur.toList.length = c * 8 := by simpa using hcs
        have HF := hidden (show a * 8 + (E.length - a) * 8 ≤ cur.size by rw [hcs]; omega)
        have hac : a ≤ c := by omega
        have hac2 : (a : Int) ≤ (c : Int) := by omega
        have hac3 : ¬ c = a := by omega
        have hac4 : (a : Int) ≤ (E.length : Int) := by omega
        have hal : a < E.length := by omega
        clear hg1 htk hr2 ha2 hst hrow hK
        go_wp2_with (refine clear_list rfl _ _ _ rfl _ 8 80 Try.underlying88 info_ent rfl (by decide) (g := g) (go' := a * 8) (n := E.length - a) (c := c - a) rfl (a * 8) (E.length - a) rfl rfl (by omega) cur _ HG.out HF.out ?_; intro w2 hg2 hk2; have HG2 := hidden hg2; have HK2 := hidden hk2; clear hg2 hk2)
        have hL2 : (laid cur.toList (a * 8) (Builtin.zeroCells (Value.agg #[.int .i64 0, .int .i64 0, .string ⟨#[]⟩, .int .i64 0, .int .i64 0, .string ⟨#[]⟩, .int .i64 0, .bool false]).cells (E.length - a)).toList).size = c * 8 := by rw [laid_size (by rw [zeros_ent, hcs']; omega), hcs']
        have hfin : Row w2 F 95 8 (.slice (some ⟨g, 0, none⟩) a c) a (flatE (stay E)) := by
          refine Row.ofBlk HG2.out hFg hac hcm hL2 ?_
          rw [laid_take' (by rw [hcs']; omega)]
          have h1 : cur.toList.take (a * 8) = (cur.toList.take (E.length * 8)).take (a * 8) := by
            rw [List.take_take]; congr 1; omega
          have h2 : stay (E.take E.length) = stay E := by rw [List.take_length]
          rw [h1, HTK.out, flatE_take, mixed, h2]
          congr 1
          rw [HA2.out, List.take_left]
        refine hR.out _ _ ⟨?_, ?_, (HK.out.trans HK2.out (fun _ _ h => h)).mono (fun k _ e => by simp [Value.ownBlock, e])⟩
        · rw [← HA2.out]; rfl
        · rw [← HA2.out]; exact hfin
end Go.Proofs.Ytmefdniocgcckaa
/- Layer 5: tables made, told, put in order anew. -/
namespace Go.Proofs.Ytmefdniocgcckaa
open Go.RowKit
set_option maxRecDepth 100000

theorem new2t (w : World) (o o' : Obj) : ((w.alloc o).alloc o').heap[w.heap.size + 1]? = some o' := by
  have := blk_new (w.alloc o) o'
  rw [show (w.alloc o).heap.size = w.heap.size + 1 by simp] at this
  exact this
def Tb.new : Tb := ⟨[], [], 0, 0, 0⟩
theorem table_New (w : World) : Calls Try.prog 30 #[] w fun e w' => ∃ b F, e = .returned (.pointer (some ⟨b, 0, none⟩)) ∧ IsTab w' F b Tb.new ∧ Keeps (fun _ => False) w w' ∧ Fresh (fun _ => False) F w := by
  refine post_gen fun R hR => ?_
  go_enter Try.func30, Try.ntmps30
  go_wp2_with fail
  exact hR.out _ _ ⟨_, fun k => k = w.heap.size, rfl, ⟨.slice none 0 0, .slice none 0 0, blk_new _ _, rfl, Row.nil _ _ _ _, Row.nil _ _ _ _, fun k hk => by simp; omega⟩, (Keeps.refl _ _).alloc _, fun k hk => .inr (by omega)⟩
theorem table_Get_none (w : World) (F : Nat → Prop) (b : Nat) (t : Tb) (key : V) (h : IsTab w F b t) (hs : t.safe) (hk : key.t.size ≤ 140737488351232) (hf : (findT t key).2 = false) :
    Calls Try.prog 67 #[.pointer (some ⟨b, 0, none⟩), key.val] w fun e w' => e = .returned (.tuple #[V.val V.null, .int .i64 3]) ∧ Keeps (fun _ => False) w w' := by
  have c1 := hidden (fun (W : World) (hK : Keeps (fun _ => False) w W) => table_find W F b t key (h.none hK) hs hk)
  rw [hf] at c1
  clear h hf
  unfold V.val at *
  refine post_gen fun R hR => ?_
  go_enter Try.func67, Try.ntmps67
  go_wp2_with fail
  refine (c1.out _ (((Keeps.refl _ w).alloc _).alloc _)).mono ?_
  rintro e w1 ⟨rfl, hK⟩
  have HK := hidden ((((Keeps.refl (fun _ => False) w).alloc _).alloc _).trans hK (fun _ _ h => h))
  have hvv : IsVar w1 (w.heap.size + 1) V.null := hK.heap (new2t w _ _) (fun h => h)
  have HV := hidden hvv
  clear hK hvv c1
  go_wp2_with fail
  refine (value_Null _).mono ?_
  rintro e w2 ⟨rfl, hK⟩
  have HK2 := hidden (HK.out.trans hK (fun _ _ h => h))
  have HV2 := hidden (show IsVar w2 (w.heap.size + 1) V.null from hK.heap HV.out (fun h => h))
  clear hK HV
  obtain ⟨v0, v1, v2, v3, v4, v5⟩ := HV2.out.cells
  have hvz := blk_lt HV2.out
  simp only [V.null] at v0 v1 v2 v3 v4 v5
  unfold V.val V.null
  go_wp2_with fail
  obtain ⟨d0, d1, d2, _⟩ := (HV2.out.set V.null).cells
  simp only [V.null] at d0 d1 d2
  exact bodyPost_ret (v := .tuple #[V.val V.null, .int .i64 3]) (by simp [results, Try.results67, go_sem, d0, d1, d2, V.val, V.null]) rfl (hR.out _ _ ⟨rfl, HK2.out.var (r := w.heap.size + 1) (fun h => by omega) _ _ _⟩)
end Go.Proofs.Ytmefdniocgcckaa
/- Layer 5: tables: what is found. -/
namespace Go.Proofs.Ytmefdniocgcckaa
open Go.RowKit
set_option maxRecDepth 100000

theorem probe_true {E : List Ent} {S : List Int} {key : V} {h : Nat} (hS : 0 < S.length) (hin : ∀ (i : Nat) (s : Int), S[i]? = some s → s = 0 ∨ s = -1 ∨ (1 ≤ s ∧ s ≤ (E.length : Int))) :
    ∀ (m d : Nat) (f : Option Nat), (probe E S key h m d f).2 = true → ∃ q : Nat, S[(probe E S key h m d f).1]? = some ((q : Int) + 1) ∧ (E.map (·.key))[q]? = some key := by
  intro m
  induction m with
  | zero => intro d f hp; simp [probe] at hp
  | succ m ih =>
    intro d f hp
    have hlt : (h + d) % S.length < S.length := Nat.mod_lt _ hS
    have hg : S[(h + d) % S.length]? = some (S.getD ((h + d) % S.length) 0) := by
      rw [List.getD_eq_getElem?_getD, List.getElem?_eq_getElem hlt]; rfl
    rw [probe] at hp ⊢
    by_cases c1 : S.getD ((h + d) % S.length) 0 = (0 : Int)
    · rw [if_pos c1] at hp; simp at hp
    · rw [if_neg c1] at hp ⊢
      by_cases c2 : S.getD ((h + d) % S.length) 0 = (-1 : Int)
      · rw [if_pos c2] at hp ⊢; exact ih _ _ hp
      · rw [if_neg c2] at hp ⊢
        by_cases c3 : (E.map (·.key))[(S.getD ((h + d) % S.length) 0).toNat - 1]? = some key
        · rw [if_pos c3]
          have := hin _ _ hg
          refine ⟨_, ?_, c3⟩
          rw [hg]
          congr 1
          omega
        · rw [if_neg c3] at hp ⊢; exact ih _ _ hp
theorem findT_true {t : Tb} {key : V} (hs : t.safe) (h : (findT t key).2 = true) : ∃ (q : Nat) (hq : q < t.E.length), t.S[(findT t key).1]? = some ((q : Int) + 1) ∧ t.E[q].key = key := by
  unfold findT at *
  by_cases h0 : t.S.length = 0
  · rw [if_pos h0] at h; simp at h
  · rw [if_neg h0] at h ⊢
    obtain ⟨q, h1, h2⟩ := probe_true (by omega) hs.inE _ _ _ h
    rw [List.getElem?_map] at h2
    obtain ⟨x, hx, hk⟩ := Option.map_eq_some_iff.1 h2
    obtain ⟨hq, he⟩ := List.getElem?_eq_some_iff.1 hx
    exact ⟨q, hq, h1, by rw [he]; exact hk⟩
theorem probe_lt {E : List Ent} {S : List Int} {key : V} {h : Nat} (hS : 0 < S.length) : ∀ (m d : Nat) (f : Option Nat), (∀ x, f = some x → x < S.length) → (probe E S key h m d f).1 < S.length := by
  intro m
  induction m with
  | zero =>
    intro d f hf
    cases f with
    | none => exact hS
    | some x => exact hf x rfl
  | succ m ih =>
    intro d f hf
    have hlt : (h + d) % S.length < S.length := Nat.mod_lt _ hS
    have hfd : f.getD ((h + d) % S.length) < S.length := by
      cases f with
      | none => exact hlt
      | some x => exact hf x rfl
    rw [probe]
    split
    · exact hfd
    · split
      · exact ih _ _ (fun x hx => by simp at hx; omega)
      · split
        · exact hlt
        · exact ih _ _ hf
theorem findT_lt {t : Tb} {key : V} (h : 0 < t.S.length) : (findT t key).1 < t.S.length := by
  unfold findT
  rw [if_neg (by omega)]
  exact probe_lt h _ _ _ (fun x hx => by simp at hx)
theorem slot_cell {w : World} {F : Nat → Prop} {A : Option Addr} {n c : Nat} {S : List Int} (h : Row w F 3 1 (.slice A n c) n (intCells S)) {i : Nat} {s : Int} (hi : S[i]? = some s) : ∃ g, A = some ⟨g, 0, none⟩ ∧ F g ∧ g < w.heap.size ∧ w.cell? ⟨g, i, none⟩ = some (.int .i64 s) ∧ w.frozen? ⟨g, i, none⟩ = false := by
  obtain ⟨b, o, rfl, hc⟩ := Ints.own h.1 i s hi
  have ho : o = 0 := by
    rcases h.1.2 with ⟨he, _⟩ | ⟨g, cap, cur, he, _⟩
    · simp at he
    · simp at he; exact he.1.2
  subst ho
  rw [Nat.zero_add] at hc
  exact ⟨b, rfl, h.2 b rfl, World.block_lt_of_cell? w _ hc, hc, h.1.frozenAt _⟩
set_option maxHeartbeats 4000000 in
theorem table_Get_some (w : World) (F : Nat → Prop) (b : Nat) (t : Tb) (key : V) (h : IsTab w F b t) (hs : t.safe) (hk : key.t.size ≤ 140737488351232) (q : Nat) (hq : q < t.E.length) (hf : (findT t key).2 = true) (hS : t.S[(findT t key).1]? = some ((q : Int) + 1)) :
    Calls Try.prog 67 #[.pointer (some ⟨b, 0, none⟩), key.val] w fun e w' => e = .returned (.tuple #[V.val t.E[q].val, .int .i64 0]) ∧ Keeps (fun _ => False) w w' := by
  have c1 := hidden (fun (W : World) (hK : Keeps (fun _ => False) w W) => table_find W F b t key (h.none hK) hs hk)
  have hi : (findT t key).1 < t.S.length := (List.getElem?_eq_some_iff.1 hS).1
  have hsl : t.S.length ≤ 1073741824 := by
    rcases hs.two with h0 | ⟨m, hm, h0⟩
    · omega
    · rw [h0]; exact Nat.pow_le_pow_right (by decide) hm
  have hel := hs.many
  rw [hf] at c1
  generalize (findT t key).1 = i at *
  obtain ⟨ve, vs, hT⟩ := h
  obtain ⟨Ae, ce, rfl⟩ := hT.ents.form
  obtain ⟨As, cs, rfl⟩ := hT.slots.form
  obtain ⟨gs, rfl, -, -, -, -⟩ := slot_cell hT.slots hS
  obtain ⟨ge, rfl, -, -, -, -⟩ := hT.ents.open8 hq
  have HT := hidden hT
  have HSS := hidden hS
  have HVX := hidden (fun W (hT : TabAt W F b (.slice (some ⟨ge, 0, none⟩) t.E.length ce) (.slice (some ⟨gs, 0, none⟩) t.S.length cs) t) => hT.ents.open8 hq)
  obtain ⟨E, S, live, used, ser⟩ := t
  simp only at *
  clear hT hf hS
  unfold V.val at *
  refine post_gen fun R hR => ?_
  go_enter Try.func67, Try.ntmps67
  go_wp2_with fail
  refine (c1.out _ (((Keeps.refl _ w).alloc _).alloc _)).mono ?_
  rintro e w1 ⟨rfl, hK⟩
  have HK := hidden ((((Keeps.refl (fun _ => False) w).alloc _).alloc _).trans hK (fun _ _ h => h))
  have HV := hidden (show IsVar w1 (w.heap.size + 1) V.null from hK.heap (new2t w _ _) (fun h => h))
  clear hK c1
  have TT := hidden (HT.out.none HK.out)
  have b0 := blk_cell TT.out.blk 0
  have b1 := blk_cell TT.out.blk 1
  simp only [List.getElem?_toArray, List.getElem?_cons_zero, List.getElem?_cons_succ] at b0 b1
  obtain ⟨g', e', -, -, hc, -⟩ := slot_cell TT.out.slots HSS.out
  simp at e'
  subst e'
  obtain ⟨g', e', -, -, ⟨-, -, -, q3, q4, q5, -, -⟩, -⟩ := HVX.out _ TT.out
  simp at e'
  subst e'
  simp only [Nat.zero_add] at q3 q4 q5
  obtain ⟨v0, v1, v2, v3, v4, v5⟩ := HV.out.cells
  simp only [V.null] at v0 v1 v2
  have hvz := blk_lt HV.out
  have hbz := blk_lt TT.out.blk
  have hgz := World.block_lt_of_cell? w1 _ hc
  have hez := World.block_lt_of_cell? w1 _ q3
  have n0 : b < w.heap.size := HT.out.inw b HT.out.here
  have n1 : b ≠ w.heap.size + 1 := by omega
  have m2 : gs < w.heap.size := HT.out.inw gs (HT.out.slots.2 gs rfl)
  have n2 : gs ≠ w.heap.size + 1 := by omega
  have m3 : ge < w.heap.size := HT.out.inw ge (HT.out.ents.2 ge rfl)
  have n3 : ge ≠ w.heap.size + 1 := by omega
  have hq2 : q < E.length := hq
  have hw1 : IntKind.i64.wrap ((q : Int) + 1 - 1) = (q : Int) := by rw [IntKind.wrap_i64]; omega
  generalize E[q] = x at *
  obtain ⟨xk, ⟨yk, yn, yt⟩, xs, xg⟩ := x
  simp only at q3 q4 q5
  go_wp2_with fail
  go_region
  go_wp2_with fail
  obtain ⟨d0, d1, d2, _⟩ := (HV.out.set ⟨yk, yn, yt⟩).cells
  simp only at d0 d1 d2
  exact bodyPost_ret (v := .tuple #[V.val ⟨yk, yn, yt⟩, .int .i64 0]) (by simp [results, Try.results67, go_sem, d0, d1, d2, V.val]) rfl (hR.out _ _ ⟨rfl, (HK.out.var (r := w.heap.size + 1) (fun h => by omega) _ _ _).drew⟩)
end Go.Proofs.Ytmefdniocgcckaa
/- Layer 5: tables: a key goes; no keys any more. -/
namespace Go.Proofs.Ytmefdniocgcckaa
open Go.RowKit
set_option maxRecDepth 100000

/-- An entry that is gone. -/
def blank (s : Int) : Ent := ⟨V.null, V.null, s, true⟩
theorem intCells_set (S : List Int) (i : Nat) (s : Int) : (intCells S).set i (.int .i64 s) = intCells (S.set i s) := by simp [intCells, List.map_set]
/-- The slots' row, one of them stored into. -/
theorem slot_set {w : World} {F : Nat → Prop} {g n c : Nat} {S : List Int} (h : Row w F 3 1 (.slice (some ⟨g, 0, none⟩) n c) n (intCells S)) (i : Nat) (s : Int) : Row (w.setCell ⟨g, i, none⟩ (.int .i64 s)) F 3 1 (.slice (some ⟨g, 0, none⟩) n c) n (intCells (S.set i s)) := by
  have h3 := h.1.stored i (.int .i64 s)
  rw [intCells_set] at h3
  exact ⟨h3.1, h.2⟩
/-- An entry is stored into. -/
theorem tab_entry {w : World} {F : Nat → Prop} {b g c : Nat} {vs : Value} {t : Tb} (h : TabAt w F b (.slice (some ⟨g, 0, none⟩) t.E.length c) vs t) {q : Nat} (hq : q < t.E.length) (y : Ent) :
    TabAt (put8 w g q y) F b (.slice (some ⟨g, 0, none⟩) t.E.length c) vs { t with E := t.E.set q y } ∧ Keeps F w (put8 w g q y) := by
  have hs := (SameBut.refl g w).put8 q y
  have hF : F g := h.ents.2 g rfl
  have hk : Keeps F w (Go.Proofs.Ytmefdniocgcckaa.put8 w g q y) := hs.keeps.mono (fun k _ e => e ▸ hF)
  have n1 : g ≠ b := h.ents.ne h.blk (by decide) g rfl
  refine ⟨⟨(hs.block b (fun e => n1 e.symm)).trans h.blk, h.here, ?_, ?_, h.inw.keeps hk⟩, hk⟩
  · have := h.ents.put8 hq y
    simpa using this
  · refine ⟨ownsRow_move h.slots.1 (fun k hk2 => hs.block k (fun e => ?_)), h.slots.2⟩
    obtain ⟨cs1, h1⟩ := own_typed h.slots.1 k hk2
    subst e
    exact h.ents.ne h1 (by decide) k rfl rfl
/-- A slot is stored into. -/
theorem tab_slot {w : World} {F : Nat → Prop} {b g c : Nat} {ve : Value} {t : Tb} (h : TabAt w F b ve (.slice (some ⟨g, 0, none⟩) t.S.length c) t) (i : Nat) (s : Int) :
    TabAt (w.setCell ⟨g, i, none⟩ (.int .i64 s)) F b ve (.slice (some ⟨g, 0, none⟩) t.S.length c) { t with S := t.S.set i s } ∧ Keeps F w (w.setCell ⟨g, i, none⟩ (.int .i64 s)) := by
  have hF : F g := h.slots.2 g rfl
  have hk : Keeps F w (w.setCell ⟨g, i, none⟩ (.int .i64 s)) := (Keeps.refl F w).setCell (p := ⟨g, i, none⟩) (fun _ => hF) _
  have n1 : g ≠ b := h.slots.ne h.blk (by decide) g rfl
  refine ⟨⟨blk_far h.blk (p := ⟨g, i, none⟩) (fun e => n1 e.symm) _, h.here, ?_, ?_, h.inw.keeps hk⟩, hk⟩
  · refine h.ents.set (p := ⟨g, i, none⟩) (fun k hk2 e => ?_) _
    obtain ⟨cs1, h1⟩ := own_typed h.ents.1 k hk2
    have e' : k = g := e
    subst e'
    exact h.slots.ne h1 (by decide) k rfl rfl
  · have := slot_set h.slots i s
    simpa using this
/-- One of the table's own numbers is stored into. -/
theorem tab_num {w : World} {F : Nat → Prop} {b i : Nat} {ve vs : Value} {t t' : Tb} {n : Int} (h : TabAt w F b ve vs t) (hE : t'.E = t.E) (hS : t'.S = t.S) (hi : (#[ve, vs, .int .i64 t.live, .int .i64 t.used, .int .i64 t.ser] : Array Value).setIfInBounds i (.int .i64 n) = #[ve, vs, .int .i64 t'.live, .int .i64 t'.used, .int .i64 t'.ser]) :
    TabAt (w.setCell ⟨b, i, none⟩ (.int .i64 n)) F b ve vs t' ∧ Keeps F w (w.setCell ⟨b, i, none⟩ (.int .i64 n)) := by
  have hk : Keeps F w (w.setCell ⟨b, i, none⟩ (.int .i64 n)) := (Keeps.refl F w).setCell (p := ⟨b, i, none⟩) (fun _ => h.here) _
  refine ⟨⟨?_, h.here, ?_, ?_, h.inw.keeps hk⟩, hk⟩
  · rw [← hi]; exact blk_set h.blk i _
  · rw [hE]; exact h.ents.set (p := ⟨b, i, none⟩) (h.ents.ne h.blk (by decide)) _
  · rw [hS]; exact h.slots.set (p := ⟨b, i, none⟩) (h.slots.ne h.blk (by decide)) _
end Go.Proofs.Ytmefdniocgcckaa
/- Layer 5: tables: what is gone left out, and more room: rehash. -/
namespace Go.Proofs.Ytmefdniocgcckaa
open Go.RowKit
set_option maxRecDepth 100000

def fillT (E : List Ent) : Nat → List Int → List Int
  | 0, S => S
  | j + 1, S => (fillT E j S).set (findT ⟨E, fillT E j S, 0, 0, 0⟩ (E.getD j (blank 0)).key).1 ((j : Int) + 1)
theorem fillT_length (E : List Ent) (S : List Int) : ∀ j, (fillT E j S).length = S.length := by
  intro j
  induction j with
  | zero => rfl
  | succ j ih => rw [fillT, List.length_set, ih]
theorem fillT_in (E : List Ent) (n : Nat) : ∀ j, ∀ (i : Nat) (s : Int), (fillT E j (List.replicate n 0))[i]? = some s → s = 0 ∨ s = -1 ∨ (1 ≤ s ∧ s ≤ (j : Int)) := by
  intro j
  induction j with
  | zero =>
    intro i s h
    rw [fillT, List.getElem?_replicate] at h
    split at h
    · simp at h; exact .inl h.symm
    · simp at h
  | succ j ih =>
    intro i s h
    rw [fillT, List.getElem?_set] at h
    split at h
    · split at h
      · simp at h; subst h; exact .inr (.inr ⟨by omega, by omega⟩)
      · simp at h
    · rcases ih i s h with h | h | ⟨h1, h2⟩
      · exact .inl h
      · exact .inr (.inl h)
      · exact .inr (.inr ⟨h1, by omega⟩)
theorem made_int (n : Nat) : (madeCells (Value.int .i64 0).cells (n * 1)).toList = intCells (List.replicate n 0) := by
  apply List.ext_getElem?
  intro i
  by_cases h : i < n <;> simp [madeCells, intCells, Value.cells, h, Nat.mod_one]
set_option maxHeartbeats 4000000 in
theorem table_rehash (w : World) (F : Nat → Prop) (b : Nat) (t : Tb) (h : IsTab w F b t) (hs : t.safe) (hlive : t.live = (stay t.E).length) (hl : t.live ≤ 1048576) (hkeys : ∀ x ∈ t.E, x.key.t.size ≤ 140737488351232) :
    Calls Try.prog 61 #[.pointer (some ⟨b, 0, none⟩)] w fun e w' => ∃ (F' : Nat → Prop) (m : Nat), e = .returned (.tuple #[]) ∧ 2 ≤ m ∧ m ≤ 30 ∧ 4 * ((stay t.E).length + 1) ≤ 2 * 2 ^ m ∧ IsTab w' F' b ⟨stay t.E, fillT (stay t.E) (stay t.E).length (List.replicate (2 ^ m) 0), t.live, t.live, t.ser⟩ ∧ Keeps F w w' ∧ Fresh F F' w := by
  obtain ⟨ve, vs, hT⟩ := h
  obtain ⟨Ae, ce, rfl⟩ := hT.ents.form
  have HT := hidden hT
  obtain ⟨E, S, live, used, ser⟩ := t
  simp only at *
  have HKY := hidden (show ∀ x ∈ stay E, x.key.t.size ≤ 140737488351232 from fun x hx => hkeys x (List.mem_filter.1 hx).1)
  have hen := hs.many
  simp only at hen
  have hsn : (stay E).length ≤ E.length := List.length_filter_le _ _
  have b2 := blk_cell hT.blk 2
  have b0 := blk_cell hT.blk 0
  have b0f := blk_frozen hT.blk 0
  have hbz := blk_lt hT.blk
  simp only [List.getElem?_toArray, List.getElem?_cons_zero, List.getElem?_cons_succ] at b0 b2
  have HLV := hidden hlive
  have hlv1 : 0 ≤ live := by omega
  have kd := hidden (fun (W : World) (hK : Keeps (fun _ => False) w W) => delete_gone W F Ae ce E (hT.ents.keeps hK (Apart.no _)) hen)
  have hl4 : IntKind.i64.wrap (live + 1) = live + 1 := by rw [IntKind.wrap_i64]; omega
  have hl5 : IntKind.i64.wrap (4 * (live + 1)) = 4 * (live + 1) := by rw [IntKind.wrap_i64]; omega
  clear hT hs hlive hkeys
  refine post_gen fun R hR => ?_
  go_enter Try.func61, Try.ntmps61
  go_wp2_with fail
  go_loop [2] (fun s => ∃ m : Nat, 2 ≤ m ∧ m ≤ 30 ∧ s = .int .i64 ((2 ^ m : Nat) : Int)) (fun s => 4294967296 - (intOf s).toNat)
  case atStart => exact ⟨2, by decide, by decide, rfl⟩
  case round =>
    obtain ⟨m, hm2, hm, rfl⟩ := hrel
    have hle : 2 ^ m ≤ 1073741824 := Nat.pow_le_pow_right (by decide) hm
    have h4 : 4 ≤ 2 ^ m := Nat.pow_le_pow_right (n := 2) (i := 2) (by decide) hm2
    have HP := hidden (show 2 ^ (m + 1) = 2 ^ m * 2 from Nat.pow_succ 2 m)
    have HMZ := hidden (show 2 ^ m = 2 ^ m from rfl)
    generalize hsz : 2 ^ m = sz at *
    have HSZ := hidden hsz
    clear hsz
    have hz1 : IntKind.i64.wrap (2 * (sz : Int)) = 2 * (sz : Int) := by rw [IntKind.wrap_i64]; omega
    have hz2 : IntKind.i64.wrap ((sz : Int) * 2) = (sz : Int) * 2 := by rw [IntKind.wrap_i64]; omega
    by_cases hlt : 2 * (sz : Int) < 4 * (live + 1)
    · go_wp2_with fail
      go_round
      case rel =>
        refine ⟨m + 1, by omega, ?_, by rw [HP.out]; go_num⟩
        refine Classical.byContradiction fun hc => ?_
        have hm30 : m = 30 := by omega
        have := HSZ.out
        rw [hm30] at this
        omega
      case measure => simp [intOf]; omega
    · go_wp2_with fail
      refine (kd.out w (Keeps.refl _ w)).mono ?_
      rintro e w1 ⟨rfl, hrow, hK⟩
      have hd := hK.heap HT.out.blk (fun e => HT.out.ents.ne HT.out.blk (by decide) b e rfl)
      have HD := hidden hd
      have hsl : Row w1 F 3 1 vs S.length (intCells S) := ⟨ownsRow_move HT.out.slots.1 (fun k hk => hK.block k (HT.out.slots.lt k hk) (fun e => by
        obtain ⟨cs1, h1⟩ := own_typed HT.out.slots.1 k hk
        exact HT.out.ents.ne h1 (by decide) k e rfl)), HT.out.slots.2⟩
      have hKF : Keeps F w w1 := hK.mono (fun k _ e => HT.out.ents.2 k e)
      have T1 := hidden (show TabAt (w1.setCell ⟨b, 0, none⟩ (.slice Ae (stay E).length ce)) F b (.slice Ae (stay E).length ce) vs ⟨stay E, S, live, used, ser⟩ from
        ⟨blk_set hd 0 _, HT.out.here, hrow.set (p := ⟨b, 0, none⟩) (hrow.ne hd (by decide)) _, hsl.set (p := ⟨b, 0, none⟩) (hsl.ne hd (by decide)) _, HT.out.inw.keeps (hKF.setCell (p := ⟨b, 0, none⟩) (fun _ => HT.out.here) (.slice Ae (stay E).length ce))⟩)
      have HK1 := hidden (hKF.setCell (p := ⟨b, 0, none⟩) (fun _ => HT.out.here) (.slice Ae (stay E).length ce))
      have c0 := blk_cell hd 0
      have c0f := blk_frozen hd 0
      have hbw := blk_lt hd
      simp only [List.getElem?_toArray, List.getElem?_cons_zero, List.getElem?_cons_succ] at c0
      clear hrow hK hd hsl hKF b0 b2 b0f kd
      obtain ⟨i0, hi0, hz0, hs0, hb0⟩ := info_parts info_int
      have hsz : (sz : Int) ≤ 1073741824 := by omega
      go_wp2_with (at_make; refine wpList_make_full _ rfl _ _ _ rfl 0 3 i0 _ 1 Try.underlying64 hi0 hz0 hs0 .i64 .i64 (sz : Int) (sz : Int) sz rfl rfl rfl rfl (by rw [hb0]; omega) (by unfold maxLen; omega) (Nat.zero_le _) ?_; intro w3 hown hgrow; have HO := hidden hown; have HG := hidden hgrow; have hk3 := (Keeps.refl (fun _ => False) _).grown HG.out (fun k h => by cases h); have T3 := hidden (T1.out.none hk3); have HK3 := hidden hk3; have b1 := blk_cell T3.out.blk 1; have b1f := blk_frozen T3.out.blk 1; have b2 := blk_cell T3.out.blk 2; have b3 := blk_cell T3.out.blk 3; have b3f := blk_frozen T3.out.blk 3; have b0 := blk_cell T3.out.blk 0; have hbz3 := blk_lt T3.out.blk; simp only [List.getElem?_toArray, List.getElem?_cons_zero, List.getElem?_cons_succ] at b0 b1 b2 b3; clear hown hgrow hk3)
      have hown := HO.out
      rw [made_int sz] at hown
      have hg1 : (w1.setCell ⟨b, 0, none⟩ (.slice Ae (stay E).length ce)).heap.size = w1.heap.size := by simp [World.setCell]
      have hgs : w1.heap.size < w3.heap.size := by have := (hown.lt _ rfl).2; simp [World.setCell] at this; exact this
      have hww : w.heap.size ≤ w1.heap.size := by have := HK1.out.size; rw [hg1] at this; exact this
      rw [hg1] at hown
      have hrow3 : Row w3 (fun k => F k ∨ k = w1.heap.size) 3 1 (.slice (some ⟨w1.heap.size, 0, none⟩) sz sz) sz (intCells (List.replicate sz 0)) := ⟨hown, fun k hk => by simp [Value.ownBlock] at hk; exact .inr hk.symm⟩
      have HLR := hidden (show (List.replicate sz (0 : Int)).length = sz from List.length_replicate)
      have T5 : TabAt ((w3.setCell ⟨b, 1, none⟩ (.slice (some ⟨w1.heap.size, 0, none⟩) sz sz)).setCell ⟨b, 3, none⟩ (.int .i64 live)) (fun k => F k ∨ k = w1.heap.size) b (.slice Ae (stay E).length ce) (.slice (some ⟨w1.heap.size, 0, none⟩) sz sz) ⟨stay E, List.replicate sz 0, live, live, ser⟩ := by
        refine ⟨blk_set (blk_set T3.out.blk 1 _) 3 _, .inl HT.out.here, ?_, ?_, ?_⟩
        · exact ((T3.out.ents.set (p := ⟨b, 1, none⟩) (T3.out.ents.ne T3.out.blk (by decide)) _).set (p := ⟨b, 3, none⟩) (T3.out.ents.ne T3.out.blk (by decide)) _).mono (fun _ _ h => .inl h)
        · have h := (hrow3.set (p := ⟨b, 1, none⟩) (hrow3.ne T3.out.blk (by decide)) (.slice (some ⟨w1.heap.size, 0, none⟩) sz sz)).set (p := ⟨b, 3, none⟩) (hrow3.ne T3.out.blk (by decide)) (.int .i64 live)
          simpa using h
        · intro k hk
          simp [World.setCell]
          rcases hk with hk | hk
          · exact T3.out.inw k hk
          · omega
      have K5 : Keeps F w ((w3.setCell ⟨b, 1, none⟩ (.slice (some ⟨w1.heap.size, 0, none⟩) sz sz)).setCell ⟨b, 3, none⟩ (.int .i64 live)) := ((HK1.out.trans HK3.out (fun _ _ h => h.elim)).setCell (p := ⟨b, 1, none⟩) (fun _ => HT.out.here) _).setCell (p := ⟨b, 3, none⟩) (fun _ => HT.out.here) _
      have TT5 := hidden T5
      have KK5 := hidden K5
      have HWW := hidden hww
      have hnl : ((stay E).length : Int) = live := HLV.out.symm
      have HLT := hidden (show 4 * ((stay E).length + 1) ≤ 2 * sz by omega)
      clear hown hg1 hgs hww hrow3 T5 K5 b0 b1 b1f b2 b3 b3f c0 c0f HO HG hbz3 HD T1 HK1 T3 HK3 hnl hlt
      generalize (w3.setCell ⟨b, 1, none⟩ (.slice (some ⟨w1.heap.size, 0, none⟩) sz sz)).setCell ⟨b, 3, none⟩ (.int .i64 live) = w5 at *
      generalize w1.heap.size = gs at *
      generalize hEE : stay E = E' at *
      clear hEE
      go_loopw [43] (fun i wr => ∃ j : Nat, j ≤ E'.length ∧ i = .int .i64 j ∧ TabAt wr (fun k => F k ∨ k = gs) b (.slice Ae E'.length ce) (.slice (some ⟨gs, 0, none⟩) sz sz) ⟨E', fillT E' j (List.replicate sz 0), live, live, ser⟩ ∧ Keeps (fun k => F k ∨ k = gs) w5 wr) (fun i _ => E'.length - (intOf i).toNat)
      case atStart => exact ⟨0, Nat.zero_le _, rfl, TT5.out, Keeps.refl _ _⟩
      case round =>
        obtain ⟨j, hj, rfl, hTr, hKr⟩ := hrel
        have TTr := hidden hTr
        have HKr := hidden hKr
        by_cases hlt : j < E'.length
        · have hSl : (fillT E' j (List.replicate sz 0)).length = sz := by rw [fillT_length, HLR.out]
          have hKY := HKY.out E'[j] (List.getElem_mem hlt)
          have hsafe : (Tb.mk E' (fillT E' j (List.replicate sz 0)) live live ser).safe := ⟨.inr ⟨m, hm, by show (fillT E' j _).length = _; rw [hSl, HSZ.out]⟩, fun i s hi => by
            rcases fillT_in E' sz j i s hi with h | h | ⟨h1, h2⟩
            · exact .inl h
            · exact .inr (.inl h)
            · exact .inr (.inr ⟨h1, by show s ≤ (E'.length : Int); omega⟩), by show E'.length ≤ _; omega⟩
          have c1 := hidden (fun (W : World) (hK : Keeps (fun _ => False) wr W) => table_find W (fun k => F k ∨ k = gs) b _ E'[j].key ⟨_, _, TTr.out.none hK⟩ hsafe hKY)
          have hfi : (findT ⟨E', fillT E' j (List.replicate sz 0), live, live, ser⟩ E'[j].key).1 < sz := by
            have := findT_lt (t := ⟨E', fillT E' j (List.replicate sz 0), live, live, ser⟩) (key := E'[j].key) (by show 0 < (fillT E' j _).length; rw [hSl]; omega)
            simp only [hSl] at this
            exact this
          have HFT := hidden (show fillT E' (j + 1) (List.replicate sz 0) = (fillT E' j (List.replicate sz 0)).set (findT ⟨E', fillT E' j (List.replicate sz 0), live, live, ser⟩ E'[j].key).1 ((j : Int) + 1) by
            rw [fillT, List.getD_eq_getElem?_getD, List.getElem?_eq_getElem hlt]; rfl)
          obtain ⟨ge, oe, rfl, ⟨e0, e1, e2, e3, e4, e5, e6, e7⟩⟩ := Ents.own TTr.out.ents.1 j E'[j] (List.getElem?_eq_getElem hlt)
          have hge := World.block_lt_of_cell? wr _ e0
          have HSL := hidden hSl
          clear hSl hsafe hKY hTr hKr
          generalize (findT ⟨E', fillT E' j (List.replicate sz 0), live, live, ser⟩ E'[j].key).1 = fi at *
          generalize (findT ⟨E', fillT E' j (List.replicate sz 0), live, live, ser⟩ E'[j].key).2 = fb at *
          generalize E'[j] = x at *
          obtain ⟨xk, xv, xs, xg⟩ := x
          simp only at e0 e1 e2 e3 e4 e5 e6 e7 c1
          unfold V.val at c1
          have hjw : IntKind.i64.wrap ((j : Int) + 1) = (j : Int) + 1 := by rw [IntKind.wrap_i64]; omega
          go_wp2_with fail
          refine (c1.out _ ((Keeps.refl _ wr).alloc _)).mono ?_
          rintro e w6 ⟨rfl, hK⟩
          have HK6 := hidden (((Keeps.refl (fun _ => False) wr).alloc _).trans hK (fun _ _ h => h))
          clear hK c1
          have TT6 := hidden (TTr.out.none HK6.out)
          have b1 := blk_cell TT6.out.blk 1
          simp only [List.getElem?_toArray, List.getElem?_cons_zero, List.getElem?_cons_succ] at b1
          obtain ⟨s0, hs0⟩ : ∃ s0, (fillT E' j (List.replicate sz 0))[fi]? = some s0 := ⟨_, List.getElem?_eq_getElem (by rw [HSL.out]; exact hfi)⟩
          obtain ⟨g', e', -, hgs, hc, hcf⟩ := slot_cell (h := by have := TT6.out.slots; rw [HSL.out] at this; exact this) hs0
          simp at e'
          subst e'
          have T7 := hidden (tab_slot (t := ⟨E', fillT E' j (List.replicate sz 0), live, live, ser⟩) (g := gs) (c := sz) (by have := TT6.out; show TabAt _ _ _ _ (.slice _ (fillT E' j (List.replicate sz 0)).length _) _; rw [HSL.out]; exact this) fi ((j : Int) + 1))
          have hbz6 := blk_lt TT6.out.blk
          clear hs0
          go_wp2_with fail
          go_roundw
          case rel =>
            refine ⟨j + 1, hlt, by go_num, ?_, (HKr.out.trans HK6.out (fun _ _ h => h.elim)).trans T7.out.2 (fun _ _ h => h)⟩
            have h7 := T7.out.1
            rw [← HFT.out] at h7
            have e8 : (fillT E' j (List.replicate sz 0)).length = sz := HSL.out
            simpa only [e8] using h7
          case measure => simp [intOf]; omega
        · obtain rfl : j = E'.length := by omega
          go_wp2_with fail
          go_end0
          refine hR.out _ _ ⟨fun k => F k ∨ k = gs, m, rfl, hm2, hm, ?_, ⟨.slice Ae E'.length ce, .slice (some ⟨gs, 0, none⟩) sz sz, ?_⟩, KK5.out.trans HKr.out (fun i hi h => ?_), fun k h => ?_⟩
          · rw [HSZ.out]; exact HLT.out
          · rw [HSZ.out]; exact TTr.out
          · rcases h with h | h
            · exact h
            · have := HWW.out; omega
          · rcases h with h | h
            · exact .inl h
            · exact .inr (by have := HWW.out; omega)
end Go.Proofs.Ytmefdniocgcckaa
/- Layer 5: tables: a key's value is put. -/
namespace Go.Proofs.Ytmefdniocgcckaa
open Go.RowKit
set_option maxRecDepth 100000

/-- A table with a key more. -/
def putT (t : Tb) (key val : V) : Tb :=
  ⟨t.E ++ [⟨key, val, t.ser + 1, false⟩], t.S.set (findT t key).1 ((t.E.length : Int) + 1), t.live + 1, if t.S.getD (findT t key).1 0 = (0 : Int) then t.used + 1 else t.used, t.ser + 1⟩
/-- Behind an append onto the entries, and the store of their row. -/
theorem tab_grew {w w6 : World} {F : Nat → Prop} {b n : Nat} {ve vs v6 : Value} {t : Tb} {e : Ent} {o : Obj} (h : TabAt w F b ve vs t) (hn : n = t.E.length + 1)
    (hR : Row w6 (fun k => F k ∨ (w.alloc o).heap.size ≤ k) 95 8 v6 n (flatE t.E ++ flatE [e])) (hK : Keeps (fun k => ve.ownBlock = some k) (w.alloc o) w6) :
    ∃ F2 : Nat → Prop, TabAt (w6.setCell ⟨b, 0, none⟩ v6) F2 b v6 vs { t with E := t.E ++ [e] } ∧ Keeps F w (w6.setCell ⟨b, 0, none⟩ v6) ∧ Fresh F F2 w := by
  subst hn
  have hk0 : Keeps F w w6 := (((Keeps.refl F w).alloc o).trans (hK.mono (fun k _ e => h.ents.2 k e)) (fun _ _ h => h))
  have hd : w6.heap[b]? = some (.cells #[ve, vs, .int .i64 t.live, .int .i64 t.used, .int .i64 t.ser] 90 (0, 0)) := hK.heap (blk_alloc h.blk o) (fun e => h.ents.ne h.blk (by decide) b e rfl)
  have hsz : w.heap.size + 1 ≤ w6.heap.size := by have := hK.size; simpa using this
  have hk7 : Keeps F w (w6.setCell ⟨b, 0, none⟩ v6) := hk0.setCell (p := ⟨b, 0, none⟩) (fun _ => h.here) v6
  have hs7 : (w6.setCell ⟨b, 0, none⟩ v6).heap.size = w6.heap.size := by simp [World.setCell]
  refine ⟨fun k => (F k ∨ w.heap.size ≤ k) ∧ k < w6.heap.size, ⟨blk_set hd 0 _, ⟨.inl h.here, blk_lt hd⟩, ?_, ?_, fun k hk => by rw [hs7]; exact hk.2⟩, hk7, fun k hk => hk.1⟩
  · have hr : Row w6 (fun k => (F k ∨ w.heap.size ≤ k) ∧ k < w6.heap.size) 95 8 v6 (t.E.length + 1) (flatE (t.E ++ [e])) := by
      rw [flatE_append]
      exact hR.mono (fun k hlt hk => ⟨hk.imp id (fun h => by simp at h; omega), hlt⟩)
    have := hr.set (p := ⟨b, 0, none⟩) (hr.ne hd (by decide)) v6
    simpa using this
  · have hs : Row w6 F 3 1 vs t.S.length (intCells t.S) := ⟨ownsRow_move (h.slots.alloc o).1 (fun k hk => hK.block k ((h.slots.alloc o).lt k hk) (fun e => by
      obtain ⟨cs1, h1⟩ := own_typed h.slots.1 k hk
      exact h.ents.ne h1 (by decide) k e rfl)), h.slots.2⟩
    exact (hs.set (p := ⟨b, 0, none⟩) (hs.ne hd (by decide)) v6).mono (fun k hlt hk => ⟨.inl hk, by rw [hs7] at hlt; exact hlt⟩)
theorem ent_src (w : World) (x : Ent) {m : Nat} (hm : m = w.heap.size) : Src Try.prog 8 88 (.slice (some ⟨m, 0, none⟩) 1 1) 1 (flatE [x]) (w.alloc x.obj).drew := by
  subst hm
  refine Src.ofSlice _ Try.underlying88 _ _ 1 _ (by rw [flatE_length]; rfl) (fun j u hj => ?_) (flatE_one _)
  rw [add_at3, Nat.zero_add]
  show (w.alloc x.obj).cell? _ = _
  unfold Ent.obj
  rw [blk_cell (blk_new w _)]
  simpa [flatE, Ent.cells] using hj
theorem flatE_val (E : List Ent) (y : V) : ∀ (i : Nat) (hi : i < E.length), (((flatE E).set (i * 8 + 3) (.int .i64 y.k)).set (i * 8 + 4) (.int .i64 y.n)).set (i * 8 + 5) (.string y.t) = flatE (E.set i { E[i] with val := y }) := by
  induction E with
  | nil => intro i h; simp at h
  | cons x xs ih =>
    intro i hi
    have e : flatE (x :: xs) = x.cells ++ flatE xs := by simp [flatE]
    cases i with
    | zero =>
      rw [e]
      simp [Ent.cells, flatE]
    | succ i =>
      have e2 : flatE ((x :: xs).set (i + 1) { (x :: xs)[i + 1] with val := y }) = x.cells ++ flatE (xs.set i { xs[i]'(by simpa using hi) with val := y }) := by simp [flatE]
      have h8 : x.cells.length = 8 := rfl
      have k : ∀ (L : List Value) (j : Nat) (v : Value), (x.cells ++ L).set ((i + 1) * 8 + j) v = x.cells ++ L.set (i * 8 + j) v := fun L j v => by
        rw [List.set_append_right _ _ (by rw [h8]; omega), h8]
        congr 2
        omega
      rw [e, e2, k, k, k, ih i (by simpa using hi)]
def putv (w : World) (g q : Nat) (y : V) : World := ((w.setCell ⟨g, q * 8 + 3, none⟩ (.int .i64 y.k)).setCell ⟨g, q * 8 + 4, none⟩ (.int .i64 y.n)).setCell ⟨g, q * 8 + 5, none⟩ (.string y.t)
theorem tab_val {w : World} {F : Nat → Prop} {b g c : Nat} {vs : Value} {t : Tb} (h : TabAt w F b (.slice (some ⟨g, 0, none⟩) t.E.length c) vs t) {q : Nat} (hq : q < t.E.length) (y : V) :
    TabAt (putv w g q y) F b (.slice (some ⟨g, 0, none⟩) t.E.length c) vs { t with E := t.E.set q { t.E[q] with val := y } } ∧ Keeps F w (putv w g q y) := by
  have hs : SameBut g w (putv w g q y) := (((SameBut.refl g w).set _ _).set _ _).set _ _
  have hF : F g := h.ents.2 g rfl
  have hk : Keeps F w (putv w g q y) := hs.keeps.mono (fun k _ e => e ▸ hF)
  have n1 : g ≠ b := h.ents.ne h.blk (by decide) g rfl
  refine ⟨⟨(hs.block b (fun e => n1 e.symm)).trans h.blk, h.here, ?_, ?_, h.inw.keeps hk⟩, hk⟩
  · have h3 := ((h.ents.1.stored (q * 8 + 3) (.int .i64 y.k)).1.stored (q * 8 + 4) (.int .i64 y.n)).1.stored (q * 8 + 5) (.string y.t)
    rw [flatE_val t.E y q hq] at h3
    have : Row (putv w g q y) F 95 8 (.slice (some ⟨g, 0, none⟩) t.E.length c) t.E.length (flatE (t.E.set q { t.E[q] with val := y })) := ⟨h3.1, h.ents.2⟩
    simpa using this
  · refine ⟨ownsRow_move h.slots.1 (fun k hk2 => hs.block k (fun e => ?_)), h.slots.2⟩
    obtain ⟨cs1, h1⟩ := own_typed h.slots.1 k hk2
    subst e
    exact h.ents.ne h1 (by decide) k rfl rfl

theorem table_Put_null (w : World) (b : Nat) (key val : V) (h0 : key.k = 0) :
    Calls Try.prog 37 #[.pointer (some ⟨b, 0, none⟩), key.val, val.val] w fun e w' => e = .returned (.int .i64 30) ∧ Keeps (fun _ => False) w w' := by
  obtain ⟨k, n, s⟩ := key
  simp only at h0
  subst h0
  unfold V.val
  refine post_gen fun R hR => ?_
  go_enter Try.func37, Try.ntmps37
  go_wp2_with fail
  exact hR.out _ _ ⟨rfl, ((Keeps.refl _ w).alloc _).alloc _⟩
theorem table_Put_long (w : World) (F : Nat → Prop) (b : Nat) (t : Tb) (key val : V) (h : IsTab w F b t) (hs : t.safe) (hk : key.t.size ≤ 140737488351232) (h0 : key.k ≠ 0) (hf : (findT t key).2 = false) (hl : t.live = 1048576) :
    Calls Try.prog 37 #[.pointer (some ⟨b, 0, none⟩), key.val, val.val] w fun e w' => e = .returned (.int .i64 2) ∧ Keeps (fun _ => False) w w' := by
  have c1 := hidden (fun (W : World) (hK : Keeps (fun _ => False) w W) => table_find W F b t key (h.none hK) hs hk)
  rw [hf] at c1
  have H := hidden h
  have hi0 : (key.k == 0) = false := by rw [beq_eq_false_iff_ne]; exact h0
  have HBK := hidden (show IsVar ((w.alloc (.cells #[.int .i64 key.k, .int .i64 key.n, .string key.t] 29)).alloc (.cells #[.int .i64 val.k, .int .i64 val.n, .string val.t] 29)) w.heap.size key from blk_alloc (blk_new w _) _)
  have HBV := hidden (show IsVar ((w.alloc (.cells #[.int .i64 key.k, .int .i64 key.n, .string key.t] 29)).alloc (.cells #[.int .i64 val.k, .int .i64 val.n, .string val.t] 29)) (w.heap.size + 1) val from new2t w _ _)
  have HK0 := hidden (show Keeps (fun _ => False) w ((w.alloc (.cells #[.int .i64 key.k, .int .i64 key.n, .string key.t] 29)).alloc (.cells #[.int .i64 val.k, .int .i64 val.n, .string val.t] 29)) from ((Keeps.refl _ w).alloc _).alloc _)
  clear h hf
  unfold V.val at *
  refine post_gen fun R hR => ?_
  go_enter Try.func37, Try.ntmps37
  go_wp2_with fail
  refine (c1.out _ HK0.out).mono ?_
  rintro e w1 ⟨rfl, hK⟩
  have HK1 := hidden (HK0.out.trans hK (fun _ _ h => h))
  clear hK c1
  obtain ⟨ve, vs, hT⟩ := H.out.none HK1.out
  have b2 := blk_cell hT.blk 2
  simp only [List.getElem?_toArray, List.getElem?_cons_zero, List.getElem?_cons_succ] at b2
  rw [hl] at b2
  clear hT
  go_wp2_with fail
  exact hR.out _ _ ⟨rfl, HK1.out⟩
set_option maxHeartbeats 4000000 in
theorem table_Put_there (w : World) (F : Nat → Prop) (b : Nat) (t : Tb) (key val : V) (h : IsTab w F b t) (hs : t.safe) (hk : key.t.size ≤ 140737488351232) (h0 : key.k ≠ 0) (q : Nat) (hq : q < t.E.length) (hf : (findT t key).2 = true) (hS : t.S[(findT t key).1]? = some ((q : Int) + 1)) :
    Calls Try.prog 37 #[.pointer (some ⟨b, 0, none⟩), key.val, val.val] w fun e w' => e = .returned (.int .i64 0) ∧ IsTab w' F b { t with E := t.E.set q { t.E[q] with val := val } } ∧ Keeps F w w' := by
  have c1 := hidden (fun (W : World) (hK : Keeps (fun _ => False) w W) => table_find W F b t key (h.none hK) hs hk)
  rw [hf] at c1
  have hi0 : (key.k == 0) = false := by rw [beq_eq_false_iff_ne]; exact h0
  have hi : (findT t key).1 < t.S.length := (List.getElem?_eq_some_iff.1 hS).1
  have hsl : t.S.length ≤ 1073741824 := by
    rcases hs.two with h0 | ⟨m, hm, h0⟩
    · omega
    · rw [h0]; exact Nat.pow_le_pow_right (by decide) hm
  have hel := hs.many
  generalize (findT t key).1 = i at *
  obtain ⟨ve, vs, hT⟩ := h
  obtain ⟨Ae, ce, rfl⟩ := hT.ents.form
  obtain ⟨As, cs, rfl⟩ := hT.slots.form
  obtain ⟨gs, rfl, -, -, -, -⟩ := slot_cell hT.slots hS
  obtain ⟨ge, rfl, -, -, -, -⟩ := hT.ents.open8 hq
  have HT := hidden hT
  have HSS := hidden hS
  have HVX := hidden (fun W (hT : TabAt W F b (.slice (some ⟨ge, 0, none⟩) t.E.length ce) (.slice (some ⟨gs, 0, none⟩) t.S.length cs) t) => hT.ents.open8 hq)
  obtain ⟨E, S, live, used, ser⟩ := t
  have hq2 : q < E.length := hq
  simp only at *
  have HBK := hidden (show IsVar ((w.alloc (.cells #[.int .i64 key.k, .int .i64 key.n, .string key.t] 29)).alloc (.cells #[.int .i64 val.k, .int .i64 val.n, .string val.t] 29)) w.heap.size key from blk_alloc (blk_new w _) _)
  have HBV := hidden (show IsVar ((w.alloc (.cells #[.int .i64 key.k, .int .i64 key.n, .string key.t] 29)).alloc (.cells #[.int .i64 val.k, .int .i64 val.n, .string val.t] 29)) (w.heap.size + 1) val from new2t w _ _)
  have HK0 := hidden (show Keeps (fun _ => False) w ((w.alloc (.cells #[.int .i64 key.k, .int .i64 key.n, .string key.t] 29)).alloc (.cells #[.int .i64 val.k, .int .i64 val.n, .string val.t] 29)) from ((Keeps.refl _ w).alloc _).alloc _)
  clear hT hf hS
  unfold V.val at *
  refine post_gen fun R hR => ?_
  go_enter Try.func37, Try.ntmps37
  go_wp2_with fail
  refine (c1.out _ HK0.out).mono ?_
  rintro e w1 ⟨rfl, hK⟩
  have HK1 := hidden (HK0.out.trans hK (fun _ _ h => h))
  have HBV1 := hidden (show IsVar w1 (w.heap.size + 1) val from hK.heap HBV.out (fun h => h))
  clear hK c1
  have TT := hidden (HT.out.none HK1.out)
  have b0 := blk_cell TT.out.blk 0
  have b1 := blk_cell TT.out.blk 1
  simp only [List.getElem?_toArray, List.getElem?_cons_zero, List.getElem?_cons_succ] at b0 b1
  obtain ⟨g', e', -, -, hc, -⟩ := slot_cell TT.out.slots HSS.out
  simp at e'
  subst e'
  obtain ⟨g', e', -, -, ⟨-, -, -, q3, q4, q5, -, -⟩, hfz⟩ := HVX.out _ TT.out
  simp at e'
  subst e'
  simp only [Nat.zero_add] at q3 q4 q5
  have f3 := hfz (q * 8 + 3)
  have f4 := hfz (q * 8 + 4)
  have f5 := hfz (q * 8 + 5)
  obtain ⟨v0, v1, v2, -⟩ := HBV1.out.cells
  have hw1 : IntKind.i64.wrap ((q : Int) + 1 - 1) = (q : Int) := by rw [IntKind.wrap_i64]; omega
  have hqi : (q : Int) < (E.length : Int) := by omega
  clear hfz
  go_wp2_with fail
  go_region
  go_wp2_with fail
  obtain ⟨t3, k3⟩ := tab_val (t := ⟨E, S, live, used, ser⟩) TT.out hq2 val
  exact hR.out _ _ ⟨rfl, ⟨_, _, t3.none ((Keeps.refl _ _).drewN 1)⟩, ((HK1.out.mono (T := F) (fun _ _ h => h.elim)).trans k3 (fun _ _ h => h)).drew⟩
end Go.Proofs.Ytmefdniocgcckaa
