/- Layer 2, plain: what the functions on texts answer, on lists of bytes. No program in sight. -/
import Derived.Test.YtpaefeknbpfpmaaBase
namespace Go.Proofs.Ytpaefeknbpfpmaa

/-- A digit to the base 16, small. -/
def hexd (n : Nat) : UInt8 := UInt8.ofNat (if n < 10 then 48 + n else 87 + n)
/-- A byte as it stands between quotes. -/
def esc (c : UInt8) : List UInt8 :=
  if c.toNat = 34 ∨ c.toNat = 39 ∨ c.toNat = 92 then [92, c]
  else if c.toNat = 10 then [92, 110] else if c.toNat = 13 then [92, 114] else if c.toNat = 9 then [92, 116]
  else if 32 ≤ c.toNat ∧ c.toNat < 127 then [c]
  else [92, 120, hexd (c.toNat / 16), hexd (c.toNat % 16)]
def quoteL (l : List UInt8) : List UInt8 := 34 :: (l.flatMap esc ++ [34])
/-- What a digit to the base 16 counts; 16: none. -/
def dig (c : UInt8) : Nat :=
  if 48 ≤ c.toNat ∧ c.toNat ≤ 57 then c.toNat - 48 else if 97 ≤ c.toNat ∧ c.toNat ≤ 102 then c.toNat - 87 else if 65 ≤ c.toNat ∧ c.toNat ≤ 70 then c.toNat - 55 else 16
def digI (c : UInt8) : Int := if dig c < 16 then dig c else -1
theorem dig_le (c : UInt8) : dig c ≤ 16 := by
  simp only [dig]
  split
  · omega
  · split
    · omega
    · split <;> omega
/-- Behind a backslash and an x: the byte, and how many bytes with the x. -/
def hx : List UInt8 → Nat × Nat
  | [] => (0, 0)
  | [a] => if dig a < 16 then (dig a, 2) else (0, 0)
  | a :: b :: _ => if dig a < 16 then (if dig b < 16 then (dig a * 16 + dig b, 3) else (dig a, 2)) else (0, 0)
/-- Behind a backslash: the byte, and how many bytes tell it; 0: none. -/
def beh : List UInt8 → Nat × Nat
  | [] => (0, 0)
  | c :: r =>
    if c.toNat = 34 ∨ c.toNat = 39 ∨ c.toNat = 92 then (c.toNat, 1) else if c.toNat = 110 then (10, 1) else if c.toNat = 114 then (13, 1) else if c.toNat = 116 then (9, 1)
    else if c.toNat = 48 then (0, 1) else if c.toNat = 120 then hx r else (0, 0)
/-- What stands between quotes, read from so many bytes on: the text, or where it is wrong. -/
def unescF : Nat → Nat → List UInt8 → List UInt8 ⊕ Nat
  | 0, _, _ => .inl []
  | _ + 1, _, [] => .inl []
  | f + 1, at', c :: r =>
    if c.toNat = 92 then
      if (beh r).2 = 0 then .inr at'
      else match unescF f (at' + 1 + (beh r).2) (r.drop (beh r).2) with
        | .inl t => .inl (UInt8.ofNat (beh r).1 :: t)
        | .inr k => .inr k
    else match unescF f (at' + 1) r with
      | .inl t => .inl (c :: t)
      | .inr k => .inr k
def unesc (l : List UInt8) : List UInt8 ⊕ Nat := unescF l.length 0 l

theorem hx_le (l : List UInt8) : (hx l).2 ≤ l.length + 1 := by
  match l with
  | [] => simp [hx]
  | [a] => simp only [hx]; split <;> simp
  | a :: b :: r => simp only [hx]; split <;> (try split) <;> simp
theorem hx_lt (l : List UInt8) : (hx l).1 < 256 := by
  match l with
  | [] => simp [hx]
  | [a] => simp only [hx]; split <;> simp; omega
  | a :: b :: r => simp only [hx]; split <;> (try split) <;> simp <;> omega
theorem beh_le (l : List UInt8) : (beh l).2 ≤ l.length := by
  cases l with
  | nil => simp [beh]
  | cons c r =>
    have := hx_le r
    simp only [beh]
    repeat (split; · simp)
    split <;> simp <;> omega
theorem beh_lt (l : List UInt8) : (beh l).1 < 256 := by
  cases l with
  | nil => simp [beh]
  | cons c r =>
    have := hx_lt r
    have h2 : c.toNat < 256 := c.toNat_lt
    simp only [beh]
    split
    · simpa using h2
    · repeat (split; · simp)
      split <;> simp <;> omega
theorem unescF_more (f : Nat) : ∀ (at' : Nat) (l : List UInt8) (g : Nat), l.length ≤ f → l.length ≤ g → unescF f at' l = unescF g at' l := by
  induction f with
  | zero =>
    intro at' l g h1 h2
    obtain rfl : l = [] := List.eq_nil_of_length_eq_zero (by omega)
    cases g <;> simp [unescF]
  | succ f ih =>
    intro at' l g h1 h2
    cases l with
    | nil => cases g <;> simp [unescF]
    | cons c r =>
      simp at h1 h2
      obtain ⟨g, rfl⟩ : ∃ m, g = m + 1 := ⟨g - 1, by omega⟩
      simp only [unescF]
      rw [ih (at' + 1) r g (by omega) (by omega), ih (at' + 1 + (beh r).2) (r.drop (beh r).2) g (by simp; omega) (by simp; omega)]
/-- What has been read so far ahead of what is read from here on. -/
def ahd (o : List UInt8) : List UInt8 ⊕ Nat → List UInt8 ⊕ Nat
  | .inl t => .inl (o ++ t)
  | .inr k => .inr k
def unAt (l : List UInt8) (i : Nat) : List UInt8 ⊕ Nat := unescF l.length i (l.drop i)
theorem unAt_zero (l : List UInt8) : ahd [] (unAt l 0) = unesc l := by
  simp only [unAt, unesc, List.drop_zero]
  cases unescF l.length 0 l <;> rfl
theorem unAt_end (l : List UInt8) (o : List UInt8) (i : Nat) (h : l.length ≤ i) : ahd o (unAt l i) = .inl o := by
  rw [unAt, List.drop_eq_nil_of_le h]
  cases l.length <;> simp [unescF, ahd]
theorem unAt_plain {l : List UInt8} {i : Nat} (o : List UInt8) (h : i < l.length) (hc : ¬ l[i].toNat = 92) : ahd o (unAt l i) = ahd (o ++ [l[i]]) (unAt l (i + 1)) := by
  have e : unAt l i = unescF ((l.drop i).length - 1 + 1) i (l.drop i) := unescF_more _ _ _ _ (by simp) (by omega)
  have e2 : unAt l (i + 1) = unescF ((l.drop i).length - 1) (i + 1) (l.drop (i + 1)) := unescF_more _ _ _ _ (by simp) (by simp; omega)
  rw [e, e2, List.drop_eq_getElem_cons h]
  simp only [unescF, if_neg hc]
  cases unescF ((l[i] :: l.drop (i + 1)).length - 1) (i + 1) (l.drop (i + 1)) <;> simp [ahd]
theorem unAt_bad {l : List UInt8} {i : Nat} (o : List UInt8) (h : i < l.length) (hc : l[i].toNat = 92) (hb : (beh (l.drop (i + 1))).2 = 0) : ahd o (unAt l i) = .inr i := by
  have e : unAt l i = unescF ((l.drop i).length - 1 + 1) i (l.drop i) := unescF_more _ _ _ _ (by simp) (by omega)
  rw [e, List.drop_eq_getElem_cons h]
  simp [unescF, hc, hb, ahd]
theorem unAt_esc {l : List UInt8} {i : Nat} (o : List UInt8) (h : i < l.length) (hc : l[i].toNat = 92) (hb : ¬ (beh (l.drop (i + 1))).2 = 0) :
    ahd o (unAt l i) = ahd (o ++ [UInt8.ofNat (beh (l.drop (i + 1))).1]) (unAt l (i + 1 + (beh (l.drop (i + 1))).2)) := by
  have e : unAt l i = unescF ((l.drop i).length - 1 + 1) i (l.drop i) := unescF_more _ _ _ _ (by simp) (by omega)
  have hl := beh_le (l.drop (i + 1))
  simp only [List.length_drop] at hl
  have e2 : unAt l (i + 1 + (beh (l.drop (i + 1))).2) = unescF ((l.drop i).length - 1) (i + 1 + (beh (l.drop (i + 1))).2) ((l.drop (i + 1)).drop (beh (l.drop (i + 1))).2) := by
    rw [List.drop_drop]
    exact unescF_more _ _ _ _ (by simp) (by simp; omega)
  rw [e, e2, List.drop_eq_getElem_cons h]
  simp only [unescF, if_pos hc, if_neg hb]
  cases unescF ((l[i] :: l.drop (i + 1)).length - 1) (i + 1 + (beh (l.drop (i + 1))).2) ((l.drop (i + 1)).drop (beh (l.drop (i + 1))).2) <;> simp [ahd]

/-- A name's byte; its first one. -/
def letterB (c : UInt8) : Bool := decide (97 ≤ c.toNat ∧ c.toNat ≤ 122) || decide (65 ≤ c.toNat ∧ c.toNat ≤ 90) || decide (c.toNat = 95)
def digitB (c : UInt8) : Bool := decide (48 ≤ c.toNat ∧ c.toNat ≤ 57)
def nameB : List UInt8 → Bool
  | [] => false
  | c :: r => letterB c && r.all fun d => letterB d || digitB d
def blankB (c : UInt8) : Bool := decide (c.toNat = 32) || decide (9 ≤ c.toNat ∧ c.toNat ≤ 13)
/-- byte by byte -/
def cmpL : List UInt8 → List UInt8 → Int
  | [], [] => 0
  | [], _ :: _ => -1
  | _ :: _, [] => 1
  | a :: l, b :: m => if a = b then cmpL l m else if a.toNat < b.toNat then -1 else 1
def lowB (c : UInt8) : UInt8 := if 65 ≤ c.toNat ∧ c.toNat ≤ 90 then UInt8.ofNat (c.toNat + 32) else c
def upB (c : UInt8) : UInt8 := if 97 ≤ c.toNat ∧ c.toNat ≤ 122 then UInt8.ofNat (c.toNat - 32) else c
def backL (l : List UInt8) : List UInt8 := (l.reverse.dropWhile blankB).reverse
end Go.Proofs.Ytpaefeknbpfpmaa
