/- Layer 5: an act, of a table and of the model: one contract; a copy's pairs. -/
import Derived.Test.YtpaefeknbpfpmaaHead5
namespace Go.Proofs.Ytpaefeknbpfpmaa
open Go.RowKit
set_option maxRecDepth 100000

def doE (L : List Ent) (s : Int) (o : LOp5) : List Ent × Int :=
  if o.k = 0 then (if o.key.k = 0 then (L, s) else putE L s o.key o.val)
  else if o.k = 1 then (if hasL L o.key then (putL L o.key o.val, s) else (L, s))
  else if o.k = 2 then (delL L o.key, s)
  else if o.k = 3 then ([], s) else (L, s)
theorem doE_len (L : List Ent) (s : Int) (o : LOp5) : (doE L s o).1.length ≤ L.length + 1 ∧ (doE L s o).2 ≤ s + 1 := by
  have h1 := putE_len L s o.key o.val
  have h2 : (putL L o.key o.val).length = L.length := putL_len ..
  have h3 : (delL L o.key).length ≤ L.length := List.length_filter_le ..
  unfold doE
  repeat' split
  all_goals first | exact h1 | (simp only [List.length_nil]; omega)
theorem hasL_at {L : List Ent} {key : V} (h : hasL L key = true) : ∃ q, ∃ hq : q < L.length, L[q].key = key := by
  obtain ⟨x, hx, e⟩ := hasL_iff.1 h
  obtain ⟨q, hq, rfl⟩ := List.mem_iff_getElem.1 hx
  exact ⟨q, hq, e⟩
theorem hasL_no {L : List Ent} {key : V} (h : hasL L key = false) : ∀ x ∈ L, x.key ≠ key := fun x hx e => by
  have := hasL_iff.2 ⟨x, hx, e⟩
  rw [h] at this
  cases this
theorem do5 (w : World) (F G : Nat → Prop) (b : Nat) (A : Option Addr) (c : Nat) (L : List Ent) (s : Int) (o : LOp5) (h : TM w F G b A c L s) (hs : s < 1073741823) (hll : L.length < 1048576) (hkl : o.key.t.size ≤ 140737488351232) :
    Calls Try.prog 13 #[.pointer (some ⟨b, 0, none⟩), .slice A L.length c, .agg #[.int .i64 o.k, .int .i64 o.key.k, .int .i64 o.key.n, .string o.key.t, .int .i64 o.val.k, .int .i64 o.val.n, .string o.val.t]] w fun e w' => ∃ A' c' F' G', e = .returned (.tuple #[.slice A' (doE L s o).1.length c', .bool true]) ∧ TM w' F' G' b A' c' (doE L s o).1 (doE L s o).2 ∧ Keeps F w w' ∧ Fresh F F' w ∧ Fresh G G' w := by
  obtain ⟨k, key, val⟩ := o
  simp only at hkl
  simp only [doE]
  by_cases k0 : k = 0
  · subst k0
    rw [if_pos rfl]
    by_cases hn : key.k = 0
    · rw [if_pos hn]
      exact do_put_null w F G b A c L s key val h hs hll hkl hn
    · rw [if_neg hn, putE]
      cases hh : hasL L key with
      | true =>
        obtain ⟨q, hq, e⟩ := hasL_at hh
        exact do_put_there w F G b A c L s key val h hs hll hkl q hq e
      | false => exact do_put_new w F G b A c L s key val h hs hll hkl (hasL_no hh) hn
  rw [if_neg k0]
  by_cases k1 : k = 1
  · subst k1
    rw [if_pos rfl]
    cases hh : hasL L key with
    | true =>
      obtain ⟨q, hq, e⟩ := hasL_at hh
      exact do_set_there w F G b A c L s key val h hs hll hkl q hq e
    | false => exact do_set_none w F G b A c L s key val h hs hll hkl (hasL_no hh)
  rw [if_neg k1]
  by_cases k2 : k = 2
  · subst k2
    rw [if_pos rfl]
    cases hh : hasL L key with
    | true =>
      obtain ⟨q, hq, e⟩ := hasL_at hh
      exact do_del_there w F G b A c L s key val h hs hll hkl q hq e
    | false =>
      rw [delL_none (hasL_no hh)]
      exact do_del_none w F G b A c L s key val h hs hll hkl (hasL_no hh)
  rw [if_neg k2]
  by_cases k3 : k = 3
  · subst k3
    rw [if_pos rfl]
    exact do_clear w F G b A c L s key val h hs hll hkl
  · rw [if_neg k3]
    exact do_other w F G b A c L s key val h hs hll hkl k ⟨k0, k1, k2, k3⟩
/-- Keys and values alone. -/
def Ent.kv (e : Ent) : V × V := (e.key, e.val)
theorem flatP_kv {E G : List Ent} (h : E.map Ent.kv = G.map Ent.kv) : flatP E = flatP G ∧ E.length = G.length := by
  have h1 : ∀ E : List Ent, flatP E = (E.map Ent.kv).flatMap (fun p => [.int .i64 p.1.k, .int .i64 p.1.n, .string p.1.t, .int .i64 p.2.k, .int .i64 p.2.n, .string p.2.t]) := fun E => by
    simp only [flatP, List.flatMap_map]; rfl
  exact ⟨by rw [h1, h1, h], by have := congrArg List.length h; simpa using this⟩
theorem cloneE_kv (L : List Ent) (hd : L.Pairwise (fun a b => a.key ≠ b.key)) : (cloneE L).1.map Ent.kv = L.map Ent.kv := by
  suffices h : ∀ n (L : List Ent), L.length = n → L.Pairwise (fun a b => a.key ≠ b.key) → (cloneE L).1.map Ent.kv = L.map Ent.kv from h _ L rfl hd
  intro n
  induction n with
  | zero => intro L h _; obtain rfl := List.eq_nil_of_length_eq_zero h; rfl
  | succ n ih =>
    intro L h hd
    rcases List.eq_nil_or_concat L with rfl | ⟨zs, x, rfl⟩
    · simp at h
    · rw [List.concat_eq_append] at h hd ⊢
      obtain ⟨h1, -, h2⟩ := List.pairwise_append.1 hd
      have hi := ih zs (by simp at h; omega) h1
      have hno : hasL (cloneE zs).1 x.key = false := by
        cases hh : hasL (cloneE zs).1 x.key with
        | false => rfl
        | true =>
          obtain ⟨y, hy, e⟩ := hasL_iff.1 hh
          have hm : Ent.kv y ∈ zs.map Ent.kv := hi ▸ List.mem_map_of_mem hy
          obtain ⟨z, hz, e2⟩ := List.mem_map.1 hm
          have e3 : z.key = y.key := (Prod.mk.inj e2).1
          exact absurd (e3.trans e) (h2 z hz x (List.mem_singleton.2 rfl))
      rw [cloneE_snoc, putE, hno, if_neg (by decide), List.map_append, List.map_append, hi]
      rfl
end Go.Proofs.Ytpaefeknbpfpmaa
