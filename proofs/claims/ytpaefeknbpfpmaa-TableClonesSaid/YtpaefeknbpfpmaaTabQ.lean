/- Layer 5: tables: the entries that are there, and what each act makes of them (plain). -/
import Derived.Test.YtpaefeknbpfpmaaTabP
namespace Go.Proofs.Ytpaefeknbpfpmaa
open Go.RowKit

def liveAt (E : List Ent) (q : Nat) : Prop := ∃ x, E[q]? = some x ∧ x.gone = false
/-- Another value of a key. -/
def putL (L : List Ent) (key val : V) : List Ent := L.map (fun y => if y.key = key then { y with val := val } else y)
/-- A key goes. -/
def delL (L : List Ent) (key : V) : List Ent := L.filter (fun y => decide (y.key ≠ key))
def hasL (L : List Ent) (key : V) : Bool := L.any (fun y => decide (y.key = key))
def Asc (L : List Ent) : Prop := L.Pairwise (fun a b => a.ser < b.ser)
theorem asc_length (s : Int) : ∀ (L : List Ent) (lo : Int), Asc L → (∀ x ∈ L, lo ≤ x.ser ∧ x.ser ≤ s) → lo ≤ s + 1 → lo + L.length ≤ s + 1
  | [], lo, _, _, h => by simpa using h
  | x :: xs, lo, ha, hb, h => by
    have ha' := List.pairwise_cons.1 ha
    have hx := hb x (List.mem_cons_self ..)
    have := asc_length s xs (lo + 1) ha'.2 (fun y hy => ⟨by have := ha'.1 y hy; omega, (hb y (List.mem_cons_of_mem _ hy)).2⟩) (by omega)
    simp only [List.length_cons]
    omega
theorem mem_stay {E : List Ent} {x : Ent} : x ∈ stay E ↔ x ∈ E ∧ x.gone = false := by simp [stay]
theorem set_val {E : List Ent} {q : Nat} {x : Ent} {val : V} (hq : E[q]? = some x) (hg : x.gone = false) (inj : ∀ q' x', E[q']? = some x' → x'.gone = false → x'.key = x.key → q' = q) :
    E.set q { x with val := val } = E.map (fun y => if y.gone = false ∧ y.key = x.key then { y with val := val } else y) := by
  refine List.ext_getElem? fun i => ?_
  rw [List.getElem?_set, List.getElem?_map]
  by_cases e : q = i
  · subst e
    have hl := (List.getElem?_eq_some_iff.1 hq).1
    rw [hq]
    simp [hl, hg]
  · rw [if_neg e]
    cases hy : E[i]? with
    | none => rfl
    | some y =>
      simp only [Option.map_some]
      rw [if_neg (fun h => e (inj i y hy h.1 h.2).symm)]
theorem set_blank {E : List Ent} {q : Nat} {x : Ent} (hq : E[q]? = some x) (hg : x.gone = false) (inj : ∀ q' x', E[q']? = some x' → x'.gone = false → x'.key = x.key → q' = q) :
    E.set q (blank x.ser) = E.map (fun y => if y.gone = false ∧ y.key = x.key then blank y.ser else y) := by
  refine List.ext_getElem? fun i => ?_
  rw [List.getElem?_set, List.getElem?_map]
  by_cases e : q = i
  · subst e
    have hl := (List.getElem?_eq_some_iff.1 hq).1
    rw [hq]
    simp [hl, hg]
  · rw [if_neg e]
    cases hy : E[i]? with
    | none => rfl
    | some y =>
      simp only [Option.map_some]
      rw [if_neg (fun h => e (inj i y hy h.1 h.2).symm)]
theorem stay_val (E : List Ent) (key val : V) : stay (E.map (fun y => if y.gone = false ∧ y.key = key then { y with val := val } else y)) = putL (stay E) key val := by
  induction E with
  | nil => rfl
  | cons x xs ih =>
    simp only [stay, putL, List.map_cons, List.filter_cons] at ih ⊢
    cases hg : x.gone with
    | true => simpa [hg] using ih
    | false =>
      by_cases hk : x.key = key
      · simpa [hg, hk] using ih
      · simpa [hg, hk] using ih
theorem stay_del (E : List Ent) (key : V) : stay (E.map (fun y => if y.gone = false ∧ y.key = key then blank y.ser else y)) = delL (stay E) key := by
  induction E with
  | nil => rfl
  | cons x xs ih =>
    simp only [stay, delL, List.map_cons, List.filter_cons] at ih ⊢
    cases hg : x.gone with
    | true => simpa [hg] using ih
    | false =>
      by_cases hk : x.key = key
      · simpa [hg, hk, blank] using ih
      · simpa [hg, hk, List.filter_cons] using ih
theorem Slots.congr {E : List Ent} {S : List Int} {P Q : Nat → Prop} (h : Slots E S P) (hPQ : ∀ q, P q ↔ Q q) : Slots E S Q := by
  have : P = Q := funext fun q => propext (hPQ q)
  subst this
  exact h
/-- The entries are others, but the keys of P's. -/
theorem Slots.ents {E E' : List Ent} {S : List Int} {P : Nat → Prop} (h : Slots E S P) (he : ∀ q x, P q → E[q]? = some x → ∃ y, E'[q]? = some y ∧ y.key = x.key) : Slots E' S P := by
  have key : ∀ q y, P q → E'[q]? = some y → ∃ x, E[q]? = some x ∧ y.key = x.key := fun q y hP hy => by
    obtain ⟨x, d, hx, -⟩ := h.way q hP
    obtain ⟨z, hz, hk⟩ := he q x hP hx
    rw [hy] at hz
    obtain rfl := Option.some.inj hz
    exact ⟨x, hx, hk⟩
  refine ⟨h.inP, fun q hP => ?_, fun a b y z ha hb hy hz e => ?_, h.uniq⟩
  · obtain ⟨x, d, hx, hd, h1, h2⟩ := h.way q hP
    obtain ⟨y, hy, hk⟩ := he q x hP hx
    exact ⟨y, d, hy, hd, by rw [hk]; exact h1, fun d' hd' => by rw [hk]; exact h2 d' hd'⟩
  · obtain ⟨y', hy', e1⟩ := key a y ha hy
    obtain ⟨z', hz', e2⟩ := key b z hb hz
    exact h.inj a b y' z' ha hb hy' hz' (by rw [← e1, ← e2]; exact e)

structure Tb.ok (t : Tb) : Prop where
  two : t.S.length = 0 ∨ ∃ m : Nat, m ≤ 30 ∧ t.S.length = 2 ^ m
  sl : Slots t.E t.S (liveAt t.E)
  liv : t.live = ((stay t.E).length : Int)
  most : (stay t.E).length ≤ 1048576
  usd : t.used = ((t.S.countP (fun s => decide (s ≠ 0)) : Nat) : Int)
  load : 4 * t.used ≤ 3 * (t.S.length : Int)
  asc : Asc t.E
  sers : ∀ x ∈ t.E, 1 ≤ x.ser ∧ x.ser ≤ t.ser
  ser0 : 0 ≤ t.ser
  keys : ∀ x ∈ t.E, x.key.t.size ≤ 140737488351232
  nnul : ∀ x ∈ t.E, x.gone = false → x.key.k ≠ 0
theorem Tb.ok.many {t : Tb} (h : t.ok) : (t.E.length : Int) ≤ t.ser := by
  have := asc_length t.ser t.E 1 h.asc h.sers (by have := h.ser0; omega)
  omega
theorem Tb.ok.safe {t : Tb} (h : t.ok) (hs : t.ser ≤ 1073741824) : t.safe :=
  ⟨h.two, fun i s hi => by
    rcases h.sl.inP i s hi with e | e | ⟨q, e, x, hx, -⟩
    · exact .inl e
    · exact .inr (.inl e)
    · have := (List.getElem?_eq_some_iff.1 hx).1
      exact .inr (.inr ⟨by omega, by omega⟩), by have := h.many; omega⟩
theorem Tb.ok.len {t : Tb} (h : t.ok) : t.S.length ≤ 1073741824 := by
  rcases h.two with e | ⟨m, hm, e⟩
  · omega
  · rw [e]; exact Nat.pow_le_pow_right (by decide) hm
theorem Tb.ok.inj {t : Tb} (h : t.ok) {q : Nat} {x : Ent} (hq : t.E[q]? = some x) (hg : x.gone = false) : ∀ q' x', t.E[q']? = some x' → x'.gone = false → x'.key = x.key → q' = q :=
  fun q' x' hq' hg' e => h.sl.inj q' q x' x ⟨x', hq', hg'⟩ ⟨x, hq, hg⟩ hq' hq e
theorem Tb.ok.there {t : Tb} (h : t.ok) (hs : t.ser ≤ 1073741824) {x : Ent} (hx : x ∈ stay t.E) : ∃ (q : Nat) (hq : q < t.E.length), t.E[q] = x ∧ (findT t x.key).2 = true ∧ t.S[(findT t x.key).1]? = Option.some ((q : Int) + 1) := by
  obtain ⟨hm, hg⟩ := mem_stay.1 hx
  obtain ⟨q, hq, e⟩ := List.mem_iff_getElem.1 hm
  have hq' : t.E[q]? = Option.some x := by rw [List.getElem?_eq_getElem hq, e]
  obtain ⟨h1, h2⟩ := h.sl.found (h.safe hs) (q := q) ⟨x, hq', hg⟩ hq'
  exact ⟨q, hq, e, h1, h2⟩
theorem Tb.ok.absent {t : Tb} (h : t.ok) (hs : t.ser ≤ 1073741824) {key : V} (hno : ∀ x ∈ stay t.E, x.key ≠ key) : (findT t key).2 = false :=
  h.sl.absent (h.safe hs) (fun q x hP hx => by
    obtain ⟨y, hy, hg⟩ := hP
    rw [hx] at hy
    obtain rfl := Option.some.inj hy
    exact hno x (mem_stay.2 ⟨List.mem_of_getElem? hx, hg⟩))
theorem Tb.ok.keysne {t : Tb} (h : t.ok) : (stay t.E).Pairwise (fun a b => a.key ≠ b.key) := by
  have h1 : t.E.Pairwise (fun a b => a.gone = false → b.gone = false → a.key ≠ b.key) := by
    rw [List.pairwise_iff_getElem]
    intro i j hi hj hij ga gb e
    have := h.inj (List.getElem?_eq_getElem hj) gb i _ (List.getElem?_eq_getElem hi) ga e
    omega
  refine (h1.filter (fun e => !e.gone)).imp_of_mem (fun {a b} ha hb hab => hab ?_ ?_)
  · simpa using (List.mem_filter.1 ha).2
  · simpa using (List.mem_filter.1 hb).2
theorem stay_append (E G : List Ent) : stay (E ++ G) = stay E ++ stay G := by simp [stay]
theorem stay_live {x : Ent} {xs : List Ent} (h : x.gone = false) : stay (x :: xs) = x :: stay xs := by simp [stay, h]
theorem stay_gone {x : Ent} {xs : List Ent} (h : x.gone = true) : stay (x :: xs) = stay xs := by simp [stay, h]
theorem ok_clear (s : Int) (hs : 0 ≤ s) : (⟨[], [], 0, 0, s⟩ : Tb).ok :=
  ⟨.inl rfl, ⟨fun i s h => by simp at h, fun q h => by obtain ⟨x, h, -⟩ := h; simp at h, fun q q' x x' h => by obtain ⟨x, h, -⟩ := h; simp at h, fun i j q h => by simp at h⟩, rfl, by simp [stay], rfl, by simp, List.Pairwise.nil, fun x h => by simp at h, hs, fun x h => by simp at h, fun x h => by simp at h⟩
theorem ok_val {t : Tb} (h : t.ok) {q : Nat} (hq : q < t.E.length) (hg : t.E[q].gone = false) (val : V) :
    ({ t with E := t.E.set q { t.E[q] with val := val } } : Tb).ok ∧ stay (t.E.set q { t.E[q] with val := val }) = putL (stay t.E) t.E[q].key val := by
  have hx : t.E[q]? = Option.some t.E[q] := List.getElem?_eq_getElem hq
  have e := set_val (val := val) hx hg (h.inj hx hg)
  have hstay : stay (t.E.set q { t.E[q] with val := val }) = putL (stay t.E) t.E[q].key val := by rw [e, stay_val]
  have hlv : ∀ k, liveAt t.E k ↔ liveAt (t.E.set q { t.E[q] with val := val }) k := fun k => by
    simp only [liveAt, List.getElem?_set]
    by_cases hk : q = k
    · subst hk
      simp [hq, hg]
    · simp [hk]
  have hmem : ∀ x ∈ t.E.set q { t.E[q] with val := val }, ∃ y ∈ t.E, x.key = y.key ∧ x.ser = y.ser ∧ x.gone = y.gone := fun x hm => by
    rcases List.mem_or_eq_of_mem_set hm with hm | rfl
    · exact ⟨x, hm, rfl, rfl, rfl⟩
    · exact ⟨t.E[q], List.getElem_mem hq, rfl, rfl, rfl⟩
  refine ⟨⟨h.two, ?_, ?_, ?_, h.usd, h.load, ?_, fun x hm => ?_, h.ser0, fun x hm => ?_, fun x hm hgx => ?_⟩, hstay⟩
  · refine (h.sl.ents (fun k x hP hk => ?_)).congr hlv
    simp only [List.getElem?_set]
    by_cases hk2 : q = k
    · subst hk2
      rw [hx] at hk
      obtain rfl := Option.some.inj hk
      exact ⟨{ t.E[q] with val := val }, by simp [hq], rfl⟩
    · exact ⟨x, by simp [hk2, hk], rfl⟩
  · show t.live = _
    rw [hstay, h.liv]; simp [putL]
  · show (stay (t.E.set q { t.E[q] with val := val })).length ≤ _
    rw [hstay]
    simpa [putL] using h.most
  · show Asc (t.E.set q { t.E[q] with val := val })
    rw [e, Asc, List.pairwise_map]
    refine h.asc.imp fun {a b} hab => ?_
    split <;> split <;> exact hab
  · obtain ⟨y, hy, -, h2, -⟩ := hmem x hm
    rw [h2]; exact h.sers y hy
  · obtain ⟨y, hy, h1, -⟩ := hmem x hm
    rw [h1]; exact h.keys y hy
  · obtain ⟨y, hy, h1, -, h3⟩ := hmem x hm
    rw [h1]; exact h.nnul y hy (by rw [← h3]; exact hgx)
theorem ok_del {t : Tb} (h : t.ok) {q i : Nat} (hq : q < t.E.length) (hg : t.E[q].gone = false) (hi : t.S[i]? = Option.some ((q : Int) + 1)) :
    (⟨t.E.set q (blank t.E[q].ser), t.S.set i (-1), t.live - 1, t.used, t.ser⟩ : Tb).ok ∧ stay (t.E.set q (blank t.E[q].ser)) = delL (stay t.E) t.E[q].key := by
  have hx : t.E[q]? = Option.some t.E[q] := List.getElem?_eq_getElem hq
  have e := set_blank hx hg (h.inj hx hg)
  have hil : i < t.S.length := (List.getElem?_eq_some_iff.1 hi).1
  have hstay : stay (t.E.set q (blank t.E[q].ser)) = delL (stay t.E) t.E[q].key := by rw [e, stay_del]
  have hlen : (stay (t.E.set q (blank t.E[q].ser))).length + 1 = (stay t.E).length := by
    have e1 : t.E = t.E.take q ++ t.E[q] :: t.E.drop (q + 1) := by simp
    have e2 : t.E.set q (blank t.E[q].ser) = t.E.take q ++ blank t.E[q].ser :: t.E.drop (q + 1) := List.set_eq_take_append_cons_drop.trans (by rw [if_pos hq])
    have f1 : (stay t.E).length = (stay (t.E.take q)).length + (1 + (stay (t.E.drop (q + 1))).length) := by
      conv => lhs; rw [e1]
      rw [stay_append, List.length_append]
      rw [stay_live hg, List.length_cons]; omega
    rw [f1, e2, stay_append, List.length_append, stay_gone (show (blank t.E[q].ser).gone = true from rfl)]; omega
  have hlv : ∀ k, (liveAt t.E k ∧ k ≠ q) ↔ liveAt (t.E.set q (blank t.E[q].ser)) k := fun k => by
    simp only [liveAt, List.getElem?_set]
    by_cases hk : q = k
    · subst hk
      simp [hq, blank]
    · simp [hk]
      exact fun _ _ _ e => hk e.symm 
  have hmem : ∀ x ∈ t.E.set q (blank t.E[q].ser), x ∈ t.E ∨ x = blank t.E[q].ser := fun x hm => List.mem_or_eq_of_mem_set hm
  refine ⟨⟨by rw [List.length_set]; exact h.two, ?_, ?_, ?_, ?_, by rw [List.length_set]; exact h.load, ?_, fun x hm => ?_, h.ser0, fun x hm => ?_, fun x hm hgx => ?_⟩, hstay⟩
  · refine ((h.sl.bury hi).ents (fun k x hP hk => ?_)).congr hlv
    have hk2 : q ≠ k := fun e => hP.2 e.symm
    exact ⟨x, by simp only [List.getElem?_set, if_neg hk2, hk], rfl⟩
  · show t.live - 1 = ((stay (t.E.set q (blank t.E[q].ser))).length : Int)
    have := h.liv; omega
  · show (stay (t.E.set q (blank t.E[q].ser))).length ≤ _
    have := h.most; omega
  · show t.used = _
    rw [h.usd, count_set hil (by decide), getD_some hi, if_neg (by omega)]; rfl
  · show Asc (t.E.set q (blank t.E[q].ser))
    rw [e, Asc, List.pairwise_map]
    refine h.asc.imp fun {a b} hab => ?_
    split <;> split <;> exact hab
  · rcases hmem x hm with hm | rfl
    · exact h.sers x hm
    · exact h.sers t.E[q] (List.getElem_mem hq)
  · rcases hmem x hm with hm | rfl
    · exact h.keys x hm
    · exact Nat.zero_le _
  · rcases hmem x hm with hm | rfl
    · exact h.nnul x hm hgx
    · cases hgx
theorem ok_put {t : Tb} (h : t.ok) (hs : t.ser ≤ 1073741824) {key : V} (val : V) (h0 : key.k ≠ 0) (hk : key.t.size ≤ 140737488351232) (hno : ∀ x ∈ stay t.E, x.key ≠ key) (hl : (stay t.E).length < 1048576) (hp : 4 * (t.used + 1) ≤ 3 * (t.S.length : Int)) :
    (putT t key val).ok ∧ stay (putT t key val).E = stay t.E ++ [⟨key, val, t.ser + 1, false⟩] ∧ (putT t key val).ser = t.ser + 1 := by
  have hno' : ∀ q x, liveAt t.E q → t.E[q]? = Option.some x → x.key ≠ key := fun q x hP hx => by
    obtain ⟨y, hy, hg⟩ := hP
    rw [hx] at hy
    obtain rfl := Option.some.inj hy
    exact hno x (mem_stay.2 ⟨List.mem_of_getElem? hx, hg⟩)
  have hc : t.S.countP (fun s => decide (s ≠ 0)) < t.S.length := by have := h.usd; have : 0 ≤ t.used := by omega
                                                                    omega
  have hg := h.sl.free (h.safe hs) hno' (zero_in hc)
  have hil : (findT t key).1 < t.S.length := findT_lt (by omega)
  have hstay : stay (t.E ++ [⟨key, val, t.ser + 1, false⟩]) = stay t.E ++ [⟨key, val, t.ser + 1, false⟩] := by rw [stay_append]; rfl
  have hlast : (t.E ++ [(⟨key, val, t.ser + 1, false⟩ : Ent)])[t.E.length]? = Option.some ⟨key, val, t.ser + 1, false⟩ := by simp
  have hold : ∀ q x, liveAt t.E q → t.E[q]? = Option.some x → ∃ y, (t.E ++ [(⟨key, val, t.ser + 1, false⟩ : Ent)])[q]? = Option.some y ∧ y.key = x.key := fun q x _ hx => ⟨x, by rw [List.getElem?_append_left (List.getElem?_eq_some_iff.1 hx).1]; exact hx, rfl⟩
  have hlv : ∀ k, (liveAt t.E k ∨ k = t.E.length) ↔ liveAt (t.E ++ [(⟨key, val, t.ser + 1, false⟩ : Ent)]) k := fun k => by
    simp only [liveAt]
    by_cases hk : k < t.E.length
    · rw [List.getElem?_append_left hk]
      constructor
      · rintro (h | h)
        · exact h
        · omega
      · exact .inl
    · by_cases hk2 : k = t.E.length
      · subst hk2
        simp
      · rw [List.getElem?_eq_none (by omega : t.E.length ≤ k), List.getElem?_eq_none (by simp; omega)]
        simp [hk2]
  refine ⟨⟨by show (t.S.set _ _).length = 0 ∨ ∃ m, m ≤ 30 ∧ (t.S.set _ _).length = 2 ^ m; rw [List.length_set]; exact h.two, ?_, ?_, ?_, ?_, ?_, ?_, fun x hm => ?_, by show 0 ≤ t.ser + 1; have := h.ser0; omega, fun x hm => ?_, fun x hm hgx => ?_⟩, hstay, rfl⟩
  · refine ((h.sl.ents hold).place hlast (fun q' x' hP hx' => ?_) hg).congr hlv
    obtain ⟨y, hy, hgy⟩ := hP
    rw [List.getElem?_append_left (List.getElem?_eq_some_iff.1 hy).1] at hx'
    exact hno' q' x' ⟨y, hy, hgy⟩ hx'
  · show t.live + 1 = _
    simp only [putT]
    rw [hstay, h.liv]; simp
  · show (stay (t.E ++ [_])).length ≤ _
    rw [hstay]; simp; omega
  · show (if t.S.getD (findT t key).1 0 = (0 : Int) then t.used + 1 else t.used) = ((t.S.set (findT t key).1 ((t.E.length : Int) + 1)).countP _ : Nat)
    rw [count_set hil (by omega), h.usd]
    split <;> simp
  · show 4 * (if t.S.getD (findT t key).1 0 = (0 : Int) then t.used + 1 else t.used) ≤ 3 * ((t.S.set _ _).length : Int)
    rw [List.length_set]
    split <;> omega
  · show Asc (t.E ++ [_])
    refine List.pairwise_append.2 ⟨h.asc, List.pairwise_singleton .., fun a ha b hb => ?_⟩
    obtain rfl := List.mem_singleton.1 hb
    have := (h.sers a ha).2
    show a.ser < t.ser + 1
    omega
  · show 1 ≤ x.ser ∧ x.ser ≤ t.ser + 1
    rcases List.mem_append.1 hm with hm | hm
    · have := h.sers x hm; omega
    · obtain rfl := List.mem_singleton.1 hm
      have := h.ser0
      exact ⟨by show 1 ≤ t.ser + 1; omega, Int.le_refl _⟩
  · rcases List.mem_append.1 hm with hm | hm
    · exact h.keys x hm
    · obtain rfl := List.mem_singleton.1 hm
      exact hk
  · rcases List.mem_append.1 hm with hm | hm
    · exact h.nnul x hm hgx
    · obtain rfl := List.mem_singleton.1 hm
      exact h0
theorem fill_ok (L : List Ent) (m : Nat) (hm : m ≤ 30) (hn : L.length < 2 ^ m) (hd : L.Pairwise (fun a b => a.key ≠ b.key)) :
    ∀ j, j ≤ L.length → Slots L (fillT L j (List.replicate (2 ^ m) 0)) (fun k => k < j) ∧ (∀ (i : Nat) (s : Int), (fillT L j (List.replicate (2 ^ m) 0))[i]? = some s → s ≠ -1) ∧ (fillT L j (List.replicate (2 ^ m) 0)).countP (fun s => decide (s ≠ 0)) = j
  | 0, _ => by
    refine ⟨⟨fun i s h => .inl ?_, fun q h => absurd h (by omega), fun q q' x x' h => absurd h (by omega), fun i j q h => ?_⟩, fun i s h => ?_, ?_⟩
    · simp only [fillT, List.getElem?_replicate] at h
      split at h
      · exact (Option.some.inj h).symm
      · cases h
    · simp only [fillT, List.getElem?_replicate] at h
      split at h
      · have := Option.some.inj h; omega
      · cases h
    · simp only [fillT, List.getElem?_replicate] at h
      split at h
      · have := Option.some.inj h; omega
      · cases h
    · simp [fillT, List.countP_replicate]
  | j + 1, hj => by
    obtain ⟨h1, h2, h3⟩ := fill_ok L m hm hn hd j (by omega)
    have hlen : (fillT L j (List.replicate (2 ^ m) 0)).length = 2 ^ m := by rw [fillT_length, List.length_replicate]
    have hpow : 2 ^ m ≤ 1073741824 := Nat.pow_le_pow_right (by decide) hm
    have hjl : j < L.length := by omega
    have hxj : L[j]? = some L[j] := List.getElem?_eq_getElem hjl
    have hsafe : (⟨L, fillT L j (List.replicate (2 ^ m) 0), 0, 0, 0⟩ : Tb).safe := ⟨.inr ⟨m, hm, hlen⟩, fun i s hi => by
      rcases h1.inP i s hi with e | e | ⟨q, e, hq⟩
      · exact .inl e
      · exact .inr (.inl e)
      · exact .inr (.inr ⟨by omega, by show s ≤ (L.length : Int); omega⟩), by show L.length ≤ _; omega⟩
    have hkey : (L.getD j (blank 0)).key = L[j].key := by rw [List.getD_eq_getElem?_getD, hxj]; rfl
    have hno : ∀ (q : Nat) (x : Ent), q < j → L[q]? = some x → x.key ≠ L[j].key := fun q x hq hx => by
      have := List.pairwise_iff_getElem.1 hd q j (by omega) hjl hq
      rw [List.getElem?_eq_getElem (by omega)] at hx
      obtain rfl := Option.some.inj hx
      exact this
    have hg := Slots.free (t := ⟨L, fillT L j (List.replicate (2 ^ m) 0), 0, 0, 0⟩) hsafe h1 hno (zero_in (by show List.countP _ (fillT L j (List.replicate (2 ^ m) 0)) < (fillT L j (List.replicate (2 ^ m) 0)).length; rw [h3, hlen]; omega))
    have hi : (findT ⟨L, fillT L j (List.replicate (2 ^ m) 0), 0, 0, 0⟩ L[j].key).1 < (fillT L j (List.replicate (2 ^ m) 0)).length := findT_lt (t := ⟨L, fillT L j (List.replicate (2 ^ m) 0), 0, 0, 0⟩) (by show 0 < (fillT L j (List.replicate (2 ^ m) 0)).length; rw [hlen]; exact Nat.two_pow_pos m)
    rw [fillT, hkey]
    obtain ⟨D, hD, hDi, hv, hw⟩ := id hg
    have hv0 : (fillT L j (List.replicate (2 ^ m) 0)).getD (findT ⟨L, fillT L j (List.replicate (2 ^ m) 0), 0, 0, 0⟩ L[j].key).1 0 = 0 := by
      rcases hv with hv | hv
      · exact hv
      · exact absurd hv (h2 _ _ (some_getD hi))
    refine ⟨(h1.place hxj hno hg).congr (fun k => by omega), fun i s hs => ?_, ?_⟩
    · rw [List.getElem?_set] at hs
      split at hs
      · have := Option.some.inj hs; omega
      · exact h2 i s hs
    · rw [count_set hi (by omega), hv0, h3]; simp
theorem ok_rehash {t : Tb} (h : t.ok) {m : Nat} (hm : m ≤ 30) (hp : 4 * ((stay t.E).length + 1) ≤ 2 * 2 ^ m) :
    (⟨stay t.E, fillT (stay t.E) (stay t.E).length (List.replicate (2 ^ m) 0), t.live, t.live, t.ser⟩ : Tb).ok := by
  have hlen : (fillT (stay t.E) (stay t.E).length (List.replicate (2 ^ m) 0)).length = 2 ^ m := by rw [fillT_length, List.length_replicate]
  obtain ⟨h1, h2, h3⟩ := fill_ok (stay t.E) m hm (by omega) h.keysne _ (Nat.le_refl _)
  have hss : stay (stay t.E) = stay t.E := by simp [stay]
  have hlv : ∀ k, k < (stay t.E).length ↔ liveAt (stay t.E) k := fun k => by
    constructor
    · intro hk
      exact ⟨(stay t.E)[k], List.getElem?_eq_getElem hk, (mem_stay.1 (List.getElem_mem hk)).2⟩
    · rintro ⟨x, hx, -⟩
      exact (List.getElem?_eq_some_iff.1 hx).1
  refine ⟨.inr ⟨m, hm, hlen⟩, h1.congr hlv, ?_, ?_, ?_, ?_, h.asc.filter _, fun x hx => h.sers x (mem_stay.1 hx).1, h.ser0, fun x hx => h.keys x (mem_stay.1 hx).1, fun x hx hg => h.nnul x (mem_stay.1 hx).1 hg⟩
  · show t.live = _
    rw [hss]; exact h.liv
  · show (stay (stay t.E)).length ≤ _
    rw [hss]; exact h.most
  · show t.live = _
    rw [h3, h.liv]
  · show 4 * t.live ≤ 3 * _
    rw [hlen, h.liv]
    have : ((2 ^ m : Nat) : Int) ≥ 0 := by omega
    omega
end Go.Proofs.Ytpaefeknbpfpmaa
