/- dreytop.WholeCells: the plain law: cells that stand in a table. -/
import Derived.Test.YtpaefeknbpfpmaaGrpE
namespace Go.Proofs.Ytpaefeknbpfpmaa
open Go.RowKit
set_option maxRecDepth 100000

def iV (n : Int) : V := ⟨2, n, ⟨#[]⟩⟩
def rV (n : Int) : V := ⟨4, n, ⟨#[]⟩⟩
def key3 (ns : List Nat) (j : Nat) : V := if j % 2 = 0 then rV (ns.getD j 0 : Nat) else iV j
def val3 (ns : List Nat) (j : Nat) : V := if j % 2 = 0 then iV j else rV (ns.getD j 0 : Nat)
theorem getD_app {ns : List Nat} {n j : Nat} (h : j < ns.length) : (ns ++ [n]).getD j 0 = ns.getD j 0 := by
  simp [List.getD_eq_getElem?_getD, List.getElem?_append_left h]
theorem key3_app {ns : List Nat} {n j : Nat} (h : j < ns.length) : key3 (ns ++ [n]) j = key3 ns j := by unfold key3; rw [getD_app h]
theorem val3_app {ns : List Nat} {n j : Nat} (h : j < ns.length) : val3 (ns ++ [n]) j = val3 ns j := by unfold val3; rw [getD_app h]
theorem getD_inj {ns : List Nat} (hn : ns.Nodup) {i j : Nat} (hi : i < ns.length) (hj : j < ns.length) (h : ns.getD i 0 = ns.getD j 0) : i = j := by
  rw [List.getD_eq_getElem?_getD, List.getD_eq_getElem?_getD, List.getElem?_eq_getElem hi, List.getElem?_eq_getElem hj] at h
  simp only [Option.getD_some] at h
  have hp := List.pairwise_iff_getElem.1 hn
  rcases Nat.lt_trichotomy i j with h1 | h1 | h1
  · exact absurd h (hp i j hi hj h1)
  · exact h1
  · exact absurd h.symm (hp j i hj hi h1)
theorem key3_inj {ns : List Nat} (hn : ns.Nodup) {i j : Nat} (hi : i < ns.length) (hj : j < ns.length) (h : key3 ns i = key3 ns j) : i = j := by
  unfold key3 at h
  split at h <;> split at h
  · have := congrArg V.n h
    simp only [rV] at this
    exact getD_inj hn hi hj (by omega)
  · have := congrArg V.k h; simp [rV, iV] at this
  · have := congrArg V.k h; simp [rV, iV] at this
  · have := congrArg V.n h
    simp only [iV] at this
    omega
/-- A table that has just the pairs of the cells of which P tells. -/
structure T3 (L : List Ent) (ns : List Nat) (P : Nat → Prop) : Prop where
  rows : ∀ x ∈ L, ∃ j, j < ns.length ∧ P j ∧ x.key = key3 ns j ∧ x.val = val3 ns j
  all : ∀ j, j < ns.length → P j → ∃ x ∈ L, x.key = key3 ns j ∧ x.val = val3 ns j
  cnt : L.length ≤ ns.length
theorem T3.nil : T3 [] [] (fun _ => True) := ⟨fun x h => by simp at h, fun j h => by simp at h, Nat.le_refl _⟩
theorem T3.put {L : List Ent} {ns : List Nat} {n : Nat} (h : T3 L ns (fun _ => True)) (hd : (ns ++ [n]).Nodup) (s : Int) :
    (∀ x ∈ L, x.key ≠ key3 (ns ++ [n]) ns.length) ∧ T3 (L ++ [⟨key3 (ns ++ [n]) ns.length, val3 (ns ++ [n]) ns.length, s, false⟩]) (ns ++ [n]) (fun _ => True) := by
  have hlen : (ns ++ [n]).length = ns.length + 1 := by simp
  refine ⟨fun x hx e => ?_, fun x hx => ?_, fun j hj _ => ?_, by have := h.cnt; simp; omega⟩
  · obtain ⟨j, hj, -, hk, -⟩ := h.rows x hx
    rw [hk, ← key3_app (n := n) hj] at e
    have := key3_inj hd (by omega) (by omega) e
    omega
  · rcases List.mem_append.1 hx with hx | hx
    · obtain ⟨j, hj, -, hk, hv⟩ := h.rows x hx
      exact ⟨j, by omega, trivial, by rw [key3_app hj]; exact hk, by rw [val3_app hj]; exact hv⟩
    · obtain rfl := List.mem_singleton.1 hx
      exact ⟨ns.length, by omega, trivial, rfl, rfl⟩
  · by_cases e : j = ns.length
    · subst e; exact ⟨_, List.mem_append_right _ (List.mem_singleton.2 rfl), rfl, rfl⟩
    · obtain ⟨x, hx, hk, hv⟩ := h.all j (by omega) trivial
      exact ⟨x, List.mem_append_left _ hx, by rw [key3_app (by omega)]; exact hk, by rw [val3_app (by omega)]; exact hv⟩
theorem T3.del {L : List Ent} {ns : List Nat} {P : Nat → Prop} (h : T3 L ns P) (hd : ns.Nodup) {k : Nat} (hk : k < ns.length) : T3 (delL L (key3 ns k)) ns (fun j => P j ∧ j ≠ k) := by
  refine ⟨fun x hx => ?_, fun j hj ⟨hp, hne⟩ => ?_, Nat.le_trans (List.length_filter_le _ _) h.cnt⟩
  · have hx' : x ∈ L ∧ x.key ≠ key3 ns k := by simpa [delL] using hx
    obtain ⟨j, hj, hp, hkj, hv⟩ := h.rows x hx'.1
    exact ⟨j, hj, ⟨hp, fun e => hx'.2 (by rw [hkj, e])⟩, hkj, hv⟩
  · obtain ⟨x, hx, hkj, hv⟩ := h.all j hj hp
    refine ⟨x, ?_, hkj, hv⟩
    have : x.key ≠ key3 ns k := fun e => hne (key3_inj hd hj hk (hkj.symm.trans e))
    simpa [delL] using ⟨hx, this⟩
/-- The cells of such a table. -/
theorem T3.cells {L : List Ent} {ns : List Nat} {P : Nat → Prop} (h : T3 L ns P) (q : Int) : q ∈ cellsT L ↔ ∃ j, j < ns.length ∧ P j ∧ q = (ns.getD j 0 : Nat) := by
  have mc : ∀ (xs : List V), q ∈ cellNums xs ↔ ∃ v ∈ xs, v.k = 4 ∧ v.n = q := fun xs => by
    simp [cellNums, List.mem_map, List.mem_filter, and_assoc]
  unfold cellsT
  rw [List.mem_append, mc, mc]
  simp only [List.mem_map]
  constructor
  · rintro (⟨_, ⟨x, hx, rfl⟩, h4, hq⟩ | ⟨_, ⟨x, hx, rfl⟩, h4, hq⟩)
    · obtain ⟨j, hj, hp, hk, -⟩ := h.rows x hx
      refine ⟨j, hj, hp, ?_⟩
      rw [hk] at h4 hq
      unfold key3 at h4 hq
      split at h4
      · rename_i e; rw [if_pos e] at hq; exact hq.symm
      · simp [iV] at h4
    · obtain ⟨j, hj, hp, -, hv⟩ := h.rows x hx
      refine ⟨j, hj, hp, ?_⟩
      rw [hv] at h4 hq
      unfold val3 at h4 hq
      split at h4
      · simp [iV] at h4
      · rename_i e; rw [if_neg e] at hq; exact hq.symm
  · rintro ⟨j, hj, hp, rfl⟩
    obtain ⟨x, hx, hk, hv⟩ := h.all j hj hp
    by_cases e : j % 2 = 0
    · exact .inl ⟨_, ⟨x, hx, rfl⟩, by rw [hk, key3, if_pos e]; rfl, by rw [hk, key3, if_pos e]; rfl⟩
    · exact .inr ⟨_, ⟨x, hx, rfl⟩, by rw [hv, val3, if_neg e]; rfl, by rw [hv, val3, if_neg e]; rfl⟩
theorem Cl.fix_nil0 {c : Cl} (h : c.nums = []) (ms : List Bool) : c.fix ms = c := by unfold Cl.fix; rw [h]
/-- The heap: a table, and boxes of numbers. -/
structure W3 (H : Hp) (it pt tb : Nat) (L : List Ent) (sr : Int) (ns : List Nat) : Prop where
  tab : atH H it = some (pt, tableCl tb L sr)
  box : ∀ j, j < ns.length → ∃ p, atH H (ns.getD j 0) = some (p, boxCl (iV j))
  nd : ns.Nodup
  off : it ∉ ns
  else_ : ∀ q, q ≠ it → q ∉ ns → atH H q = none
theorem mem_getD {ns : List Nat} {q : Nat} : q ∈ ns ↔ ∃ j, j < ns.length ∧ ns.getD j 0 = q := by
  constructor
  · intro h
    obtain ⟨j, hj, e⟩ := List.mem_iff_getElem.1 h
    exact ⟨j, hj, by rw [List.getD_eq_getElem?_getD, List.getElem?_eq_getElem hj]; exact e⟩
  · rintro ⟨j, hj, rfl⟩
    rw [List.getD_eq_getElem?_getD, List.getElem?_eq_getElem hj]
    exact List.getElem_mem hj
theorem W3.coll {H H' : Hp} {s s' : HSt} {it pt tb : Nat} {L : List Ent} {sr : Int} {ns : List Nat} {P : Nat → Prop} {fr : List Int} {ms : List Bool} (h : W3 H it pt tb L sr ns) (ht : T3 L ns P) (c : Coll H s [(it : Int)] H' s' fr ms) :
    (∀ n : Int, n ∈ fr ↔ ∃ j, j < ns.length ∧ ¬ P j ∧ n = (ns.getD j 0 : Nat)) ∧ (∀ j, j < ns.length → P j → ∃ p, H'[ns.getD j 0]? = some (some (p, boxCl (iV j)))) ∧ (∀ j, j < ns.length → ¬ P j → H'[ns.getD j 0]? = some none) := by
  have hst : (tableCl tb L sr).strong = cellsT L := by simp [tableCl, Cl.strong, cellNums, V.null]
  have hbs : ∀ j : Nat, (boxCl (iV j)).strong = [] := fun j => by simp [boxCl, Cl.strong, cellNums, iV]
  have hit : Hp.has H it := has_at.2 (by rw [h.tab]; rfl)
  have hbx : ∀ j, j < ns.length → Hp.has H (ns.getD j 0) := fun j hj => by obtain ⟨p, e⟩ := h.box j hj; exact has_at.2 (by rw [e]; rfl)
  have r0 : Reach H [(it : Int)] it := .root (by simp) hit
  have hr : ∀ q, Reach H [(it : Int)] q → q = it ∨ ∃ j, j < ns.length ∧ P j ∧ q = ns.getD j 0 := fun q hq => by
    induction hq with
    | root hi _ => exact .inl (by have := List.mem_singleton.1 hi; omega)
    | step _ hi hj _ ih =>
      have e := atH_some.2 hi
      rcases ih with rfl | ⟨j, hj2, hp, rfl⟩
      · rw [h.tab] at e
        obtain ⟨rfl, rfl⟩ := Prod.mk.inj (Option.some.inj e)
        rw [hst, ht.cells] at hj
        obtain ⟨j, h1, h2, h3⟩ := hj
        exact .inr ⟨j, h1, h2, by omega⟩
      · obtain ⟨p, e2⟩ := h.box j hj2
        rw [e2] at e
        obtain ⟨rfl, rfl⟩ := Prod.mk.inj (Option.some.inj e)
        rw [hbs] at hj
        simp at hj
  have hne : ∀ j, j < ns.length → ns.getD j 0 ≠ it := fun j hj e => h.off (mem_getD.2 ⟨j, hj, e⟩)
  have mt := (c.mark it).2 r0
  have mp : ∀ j, j < ns.length → P j → ms[ns.getD j 0]? = some true := fun j hj hp => (c.mark _).2 (.step r0 (atH_some.1 h.tab) (by rw [hst, ht.cells]; exact ⟨j, hj, hp, rfl⟩) (hbx j hj))
  have mn : ∀ j, j < ns.length → ¬ P j → ms[ns.getD j 0]? ≠ some true := fun j hj hp hm => by
    rcases hr _ ((c.mark _).1 hm) with e | ⟨i, hi, hpi, e⟩
    · exact hne j hj e
    · exact hp (getD_inj h.nd hj hi e ▸ hpi)
  refine ⟨fun n => ?_, fun j hj hp => ?_, fun j hj hp => ?_⟩
  · rw [c.mem]
    constructor
    · rintro ⟨q, rfl, hq, hm⟩
      by_cases e1 : q = it
      · subst e1; exact absurd mt hm
      by_cases e2 : q ∈ ns
      · obtain ⟨j, hj, rfl⟩ := mem_getD.1 e2
        exact ⟨j, hj, fun hp => hm (mp j hj hp), rfl⟩
      · have := has_at.1 hq
        rw [h.else_ q e1 e2] at this; cases this
    · rintro ⟨j, hj, hp, rfl⟩
      exact ⟨_, rfl, hbx j hj, mn j hj hp⟩
  · obtain ⟨p, e⟩ := h.box j hj
    refine ⟨p, atH_some.1 ?_⟩
    rw [c.at_, if_pos (mp j hj hp), e]
    simp [Cl.fix_nil0 (c := boxCl (iV j)) rfl]
  · have hl : ns.getD j 0 < H'.length := by rw [c.len]; exact Hp.has_lt (hbx j hj)
    have e := c.at_ (ns.getD j 0)
    rw [if_neg (mn j hj hp)] at e
    unfold atH at e
    rw [List.getElem?_eq_getElem hl] at e ⊢
    simp only [Option.join_some] at e
    rw [e]
/-- How many are gone. -/
theorem gone_count {ns : List Nat} (hd : ns.Nodup) (kp : List Bool) (hl : kp.length = ns.length) {fr : List Int} (hn : fr.Nodup) (hm : ∀ n : Int, n ∈ fr ↔ ∃ j, j < ns.length ∧ ¬ kp[j]? = some true ∧ n = (ns.getD j 0 : Nat)) : fr.length = kp.countP (! ·) := by
  have hp : fr.Perm (((List.range ns.length).filter fun j => decide (¬ kp[j]? = some true)).map fun j => ((ns.getD j 0 : Nat) : Int)) := by
    refine (List.perm_ext_iff_of_nodup hn ?_).2 fun n => ?_
    · refine List.pairwise_map.2 ((List.nodup_range.filter _).imp_of_mem fun {a b} ha hb hab e => hab ?_)
      have h1 := List.mem_range.1 (List.mem_filter.1 ha).1
      have h2 := List.mem_range.1 (List.mem_filter.1 hb).1
      exact getD_inj hd h1 h2 (by omega)
    · rw [hm, List.mem_map]
      constructor
      · rintro ⟨j, h1, h2, h3⟩; exact ⟨j, List.mem_filter.2 ⟨List.mem_range.2 h1, by simpa using h2⟩, h3.symm⟩
      · rintro ⟨j, h1, h3⟩
        obtain ⟨h4, h5⟩ := List.mem_filter.1 h1
        exact ⟨j, List.mem_range.1 h4, by simpa using h5, h3.symm⟩
  rw [hp.length_eq, List.length_map, ← List.countP_eq_length_filter, ← hl]
  clear hp hm hn hl hd
  have key : ∀ (l : List Bool) (q : List Bool), (List.range l.length).countP (fun j => decide (¬ (q ++ l)[q.length + j]? = some true)) = l.countP (! ·) := fun l => by
    induction l with
    | nil => intro q; rfl
    | cons b l ih =>
      intro q
      rw [List.length_cons, List.range_succ_eq_map, List.countP_cons, List.countP_map, List.countP_cons]
      have h := ih (q ++ [b])
      have e : ((fun j => decide (¬ (q ++ b :: l)[q.length + j]? = some true)) ∘ Nat.succ) = fun j => decide (¬ ((q ++ [b]) ++ l)[(q ++ [b]).length + j]? = some true) := by
        funext j
        simp only [Function.comp, List.append_assoc, List.singleton_append, List.length_append, List.length_singleton]
        rw [show q.length + Nat.succ j = q.length + 1 + j by omega]
      rw [e, h]
      congr 1
      cases b <;> simp
  have := key kp []
  simpa using this
end Go.Proofs.Ytpaefeknbpfpmaa
