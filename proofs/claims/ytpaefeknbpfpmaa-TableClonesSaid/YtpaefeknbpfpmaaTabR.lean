/- Layer 5: tables by what is there: each act's contract. -/
import Derived.Test.YtpaefeknbpfpmaaTabQ
namespace Go.Proofs.Ytpaefeknbpfpmaa
open Go.RowKit
set_option maxRecDepth 100000

/-- A table at b: the entries that are there, in order; the last serial. -/
def IsT (w : World) (F : Nat → Prop) (b : Nat) (L : List Ent) (s : Int) : Prop := ∃ t : Tb, IsTab w F b t ∧ t.ok ∧ stay t.E = L ∧ t.ser = s
theorem IsT.keeps {w w1 : World} {F S : Nat → Prop} {b : Nat} {L : List Ent} {s : Int} (h : IsT w F b L s) (hk : Keeps S w w1) (hn : Apart F S) : IsT w1 F b L s := by
  obtain ⟨t, h1, h2⟩ := h
  exact ⟨t, h1.keeps hk hn, h2⟩
theorem IsT.none {w w1 : World} {F : Nat → Prop} {b : Nat} {L : List Ent} {s : Int} (h : IsT w F b L s) (hk : Keeps (fun _ => False) w w1) : IsT w1 F b L s := h.keeps hk (Apart.no _)
theorem IsT.inw {w : World} {F : Nat → Prop} {b : Nat} {L : List Ent} {s : Int} (h : IsT w F b L s) : In F w := by obtain ⟨t, h1, _⟩ := h; exact h1.inw
/-- What is always so of the entries that are there. -/
structure Lok (L : List Ent) (s : Int) : Prop where
  asc : Asc L
  sers : ∀ x ∈ L, 1 ≤ x.ser ∧ x.ser ≤ s
  live : ∀ x ∈ L, x.gone = false
  kne : L.Pairwise (fun a b => a.key ≠ b.key)
  keys : ∀ x ∈ L, x.key.t.size ≤ 140737488351232
  nnul : ∀ x ∈ L, x.key.k ≠ 0
  most : L.length ≤ 1048576
  pos : 0 ≤ s
theorem IsT.lok {w : World} {F : Nat → Prop} {b : Nat} {L : List Ent} {s : Int} (h : IsT w F b L s) : Lok L s := by
  obtain ⟨t, _, ho, rfl, rfl⟩ := h
  exact ⟨ho.asc.filter _, fun x hx => ho.sers x (mem_stay.1 hx).1, fun x hx => (mem_stay.1 hx).2, ho.keysne, fun x hx => ho.keys x (mem_stay.1 hx).1, fun x hx => ho.nnul x (mem_stay.1 hx).1 (mem_stay.1 hx).2, ho.most, ho.ser0⟩
theorem t_New (w : World) : Calls Try.prog 12 #[] w fun e w' => ∃ b F, e = .returned (.pointer (some ⟨b, 0, none⟩)) ∧ IsT w' F b [] 0 ∧ Keeps (fun _ => False) w w' ∧ Fresh (fun _ => False) F w :=
  (table_New w).mono fun _ _ ⟨b, F, he, h, hk, hf⟩ => ⟨b, F, he, ⟨_, h, ok_clear 0 (by decide), rfl, rfl⟩, hk, hf⟩
section
variable {w : World} {F : Nat → Prop} {b : Nat} {L : List Ent} {s : Int}
theorem t_Len (h : IsT w F b L s) : Calls Try.prog 61 #[.pointer (some ⟨b, 0, none⟩)] w fun e w' => e = .returned (.int .i64 L.length) ∧ w = w' := by
  obtain ⟨t, h1, ho, rfl, rfl⟩ := h
  exact (table_Len w F b t h1).mono fun _ _ ⟨he, hw⟩ => ⟨by rw [he, ho.liv], hw⟩
theorem t_Has_some (h : IsT w F b L s) (hs : s < 1073741824) {x : Ent} (hx : x ∈ L) :
    Calls Try.prog 69 #[.pointer (some ⟨b, 0, none⟩), x.key.val] w fun e w' => e = .returned (.bool true) ∧ Keeps (fun _ => False) w w' := by
  obtain ⟨t, h1, ho, rfl, rfl⟩ := h
  obtain ⟨q, hq, -, hf, -⟩ := ho.there (by omega) hx
  exact (table_Has w F b t x.key h1 (ho.safe (by omega)) (ho.keys x (mem_stay.1 hx).1)).mono fun _ _ ⟨he, hw⟩ => ⟨by rw [he, hf], hw⟩
theorem t_Has_none (h : IsT w F b L s) (hs : s < 1073741824) {key : V} (hk : key.t.size ≤ 140737488351232) (hx : ∀ x ∈ L, x.key ≠ key) :
    Calls Try.prog 69 #[.pointer (some ⟨b, 0, none⟩), key.val] w fun e w' => e = .returned (.bool false) ∧ Keeps (fun _ => False) w w' := by
  obtain ⟨t, h1, ho, rfl, rfl⟩ := h
  exact (table_Has w F b t key h1 (ho.safe (by omega)) hk).mono fun _ _ ⟨he, hw⟩ => ⟨by rw [he, ho.absent (by omega) hx], hw⟩
theorem t_Get_some (h : IsT w F b L s) (hs : s < 1073741824) {x : Ent} (hx : x ∈ L) :
    Calls Try.prog 60 #[.pointer (some ⟨b, 0, none⟩), x.key.val] w fun e w' => e = .returned (.tuple #[x.val.val, .int .i64 0]) ∧ Keeps (fun _ => False) w w' := by
  obtain ⟨t, h1, ho, rfl, rfl⟩ := h
  obtain ⟨q, hq, e, hf, hS⟩ := ho.there (by omega) hx
  exact (table_Get_some w F b t x.key h1 (ho.safe (by omega)) (ho.keys x (mem_stay.1 hx).1) q hq hf hS).mono fun _ _ ⟨he, hw⟩ => ⟨by rw [he, e], hw⟩
theorem t_Get_none (h : IsT w F b L s) (hs : s < 1073741824) {key : V} (hk : key.t.size ≤ 140737488351232) (hx : ∀ x ∈ L, x.key ≠ key) :
    Calls Try.prog 60 #[.pointer (some ⟨b, 0, none⟩), key.val] w fun e w' => e = .returned (.tuple #[V.val V.null, .int .i64 3]) ∧ Keeps (fun _ => False) w w' := by
  obtain ⟨t, h1, ho, rfl, rfl⟩ := h
  exact table_Get_none w F b t key h1 (ho.safe (by omega)) hk (ho.absent (by omega) hx)
theorem t_Put_long (h : IsT w F b L s) (hs : s < 1073741824) {key : V} (val : V) (h0 : key.k ≠ 0) (hk : key.t.size ≤ 140737488351232) (hx : ∀ x ∈ L, x.key ≠ key) (hl : L.length = 1048576) :
    Calls Try.prog 49 #[.pointer (some ⟨b, 0, none⟩), key.val, val.val] w fun e w' => e = .returned (.int .i64 2) ∧ Keeps (fun _ => False) w w' := by
  obtain ⟨t, h1, ho, rfl, rfl⟩ := h
  exact table_Put_long w F b t key val h1 (ho.safe (by omega)) hk h0 (ho.absent (by omega) hx) (by rw [ho.liv, hl]; rfl)
theorem t_Put_there (h : IsT w F b L s) (hs : s < 1073741824) {x : Ent} (hx : x ∈ L) (val : V) :
    Calls Try.prog 49 #[.pointer (some ⟨b, 0, none⟩), x.key.val, val.val] w fun e w' => e = .returned (.int .i64 0) ∧ IsT w' F b (putL L x.key val) s ∧ Keeps F w w' := by
  obtain ⟨t, h1, ho, rfl, rfl⟩ := h
  obtain ⟨q, hq, e, hf, hS⟩ := ho.there (by omega) hx
  have hg : t.E[q].gone = false := by rw [e]; exact (mem_stay.1 hx).2
  obtain ⟨k1, k2⟩ := ok_val ho hq hg val
  exact (table_Put_there w F b t x.key val h1 (ho.safe (by omega)) (ho.keys x (mem_stay.1 hx).1) (ho.nnul x (mem_stay.1 hx).1 (mem_stay.1 hx).2) q hq hf hS).mono fun _ _ ⟨he, ht, hw⟩ => ⟨he, ⟨_, ht, k1, by rw [← e]; exact k2, rfl⟩, hw⟩
theorem t_Put_new (h : IsT w F b L s) (hs : s < 1073741823) {key : V} (val : V) (h0 : key.k ≠ 0) (hk : key.t.size ≤ 140737488351232) (hx : ∀ x ∈ L, x.key ≠ key) (hl : L.length < 1048576) :
    Calls Try.prog 49 #[.pointer (some ⟨b, 0, none⟩), key.val, val.val] w fun e w' => ∃ F' : Nat → Prop, e = .returned (.int .i64 0) ∧ IsT w' F' b (L ++ [⟨key, val, s + 1, false⟩]) (s + 1) ∧ Keeps F w w' ∧ Fresh F F' w := by
  obtain ⟨t, h1, ho, rfl, rfl⟩ := h
  have hf := ho.absent (by omega) hx
  have hmany := ho.many
  have hu0 : 0 ≤ t.used := by rw [ho.usd]; omega
  have hroom : t.room := ⟨⟨ho.ser0, by omega⟩, ⟨hu0, by have := ho.load; omega⟩, ⟨by rw [ho.liv]; omega, by rw [ho.liv]; omega⟩, by omega⟩
  by_cases hp : 4 * (t.used + 1) ≤ 3 * (t.S.length : Int)
  · obtain ⟨k1, k2, k3⟩ := ok_put ho (by omega) val h0 hk hx hl hp
    exact (table_Put_plain w F b t key val h1 (ho.safe (by omega)) hk h0 hf hroom hp).mono fun _ _ ⟨F', he, ht, hw⟩ => ⟨F', he, ⟨_, ht, k1, k2, k3⟩, hw⟩
  · refine (table_Put_more w F b t key val h1 (ho.safe (by omega)) hk h0 hf hroom (by omega) ho.liv ho.keys ho.len).mono fun _ _ ⟨F', m, he, hm2, hm30, hp2, ht, hw⟩ => ⟨F', he, ?_, hw⟩
    have k0 := ok_rehash ho hm30 hp2
    have hss : stay (stay t.E) = stay t.E := by simp [stay]
    have hlen : (fillT (stay t.E) (stay t.E).length (List.replicate (2 ^ m) 0)).length = 2 ^ m := by rw [fillT_length, List.length_replicate]
    obtain ⟨k1, k2, k3⟩ := ok_put k0 (by show t.ser ≤ _; omega) val h0 hk (by show ∀ x ∈ stay (stay t.E), _; rw [hss]; exact hx) (by show (stay (stay t.E)).length < _; rw [hss]; exact hl) (by
      show 4 * (t.live + 1) ≤ 3 * ((fillT (stay t.E) (stay t.E).length (List.replicate (2 ^ m) 0)).length : Int)
      rw [hlen, ho.liv]
      omega)
    exact ⟨_, ht, k1, by rw [k2]; show stay (stay t.E) ++ _ = _; rw [hss], k3⟩
theorem t_Set_none (h : IsT w F b L s) (hs : s < 1073741824) {key : V} (val : V) (hk : key.t.size ≤ 140737488351232) (hx : ∀ x ∈ L, x.key ≠ key) :
    Calls Try.prog 63 #[.pointer (some ⟨b, 0, none⟩), key.val, val.val] w fun e w' => e = .returned (.int .i64 3) ∧ Keeps (fun _ => False) w w' := by
  obtain ⟨t, h1, ho, rfl, rfl⟩ := h
  exact table_Set_none w F b t key val h1 (ho.safe (by omega)) hk (ho.absent (by omega) hx)
theorem t_Set_there (h : IsT w F b L s) (hs : s < 1073741824) {x : Ent} (hx : x ∈ L) (val : V) :
    Calls Try.prog 63 #[.pointer (some ⟨b, 0, none⟩), x.key.val, val.val] w fun e w' => e = .returned (.int .i64 0) ∧ IsT w' F b (putL L x.key val) s ∧ Keeps F w w' := by
  obtain ⟨t, h1, ho, rfl, rfl⟩ := h
  obtain ⟨q, hq, e, hf, hS⟩ := ho.there (by omega) hx
  have hg : t.E[q].gone = false := by rw [e]; exact (mem_stay.1 hx).2
  obtain ⟨k1, k2⟩ := ok_val ho hq hg val
  exact (table_Set_there w F b t x.key val h1 (ho.safe (by omega)) (ho.keys x (mem_stay.1 hx).1) (ho.nnul x (mem_stay.1 hx).1 (mem_stay.1 hx).2) q hq hf hS).mono fun _ _ ⟨he, ht, hw⟩ => ⟨he, ⟨_, ht, k1, by rw [← e]; exact k2, rfl⟩, hw⟩
theorem t_Delete_none (h : IsT w F b L s) (hs : s < 1073741824) {key : V} (hk : key.t.size ≤ 140737488351232) (hx : ∀ x ∈ L, x.key ≠ key) :
    Calls Try.prog 54 #[.pointer (some ⟨b, 0, none⟩), key.val] w fun e w' => e = .returned (.tuple #[V.val V.null, .int .i64 3]) ∧ Keeps (fun _ => False) w w' := by
  obtain ⟨t, h1, ho, rfl, rfl⟩ := h
  exact table_Delete_none w F b t key h1 (ho.safe (by omega)) hk (ho.absent (by omega) hx)
theorem t_Delete_some (h : IsT w F b L s) (hs : s < 1073741824) {x : Ent} (hx : x ∈ L) :
    Calls Try.prog 54 #[.pointer (some ⟨b, 0, none⟩), x.key.val] w fun e w' => e = .returned (.tuple #[x.val.val, .int .i64 0]) ∧ IsT w' F b (delL L x.key) s ∧ Keeps F w w' := by
  obtain ⟨t, h1, ho, rfl, rfl⟩ := h
  obtain ⟨q, hq, e, hf, hS⟩ := ho.there (by omega) hx
  have hg : t.E[q].gone = false := by rw [e]; exact (mem_stay.1 hx).2
  obtain ⟨k1, k2⟩ := ok_del ho hq hg hS
  have hpos : 0 < (stay t.E).length := List.length_pos_of_mem hx
  have hmost := ho.most
  exact (table_Delete_some w F b t x.key h1 (ho.safe (by omega)) (ho.keys x (mem_stay.1 hx).1) q hq hf hS (by rw [ho.liv]; omega)).mono fun _ _ ⟨he, ht, hw⟩ => ⟨by rw [he, e], ⟨_, ht, k1, by rw [← e]; exact k2, rfl⟩, hw⟩
theorem t_Clear (h : IsT w F b L s) :
    Calls Try.prog 51 #[.pointer (some ⟨b, 0, none⟩)] w fun e w' => e = .returned (.tuple #[]) ∧ IsT w' F b [] s ∧ Keeps F w w' := by
  obtain ⟨t, h1, ho, rfl, rfl⟩ := h
  exact (table_Clear w F b t h1).mono fun _ _ ⟨he, ht, hw⟩ => ⟨he, ⟨_, ht, ok_clear _ ho.ser0, rfl, rfl⟩, hw⟩
theorem nextT_stay (E : List Ent) (c : Int) : nextT E c = nextT (stay E) c := by
  induction E with
  | nil => rfl
  | cons x xs ih =>
    simp only [nextT] at ih ⊢
    cases hg : x.gone with
    | true => rw [stay_gone hg, List.find?_cons, hg]; simpa using ih
    | false => rw [stay_live hg, List.find?_cons, List.find?_cons, hg]; split <;> simp_all
theorem t_Next (h : IsT w F b L s) (hs : s < 1073741824) (c : Int) :
    Calls Try.prog 14 #[.pointer (some ⟨b, 0, none⟩), .int .i64 c] w fun e w' => e = .returned (nextAns L c) ∧ Keeps (fun _ => False) w w' := by
  obtain ⟨t, h1, ho, rfl, rfl⟩ := h
  have hmany := ho.many
  exact (table_Next w F b t c h1 (by omega) (fun i j hij hj => List.pairwise_iff_getElem.1 ho.asc i j (by omega) hj hij)).mono fun _ _ ⟨he, hw⟩ => ⟨by rw [he, nextAns, nextAns, nextT_stay], hw⟩
end
end Go.Proofs.Ytpaefeknbpfpmaa
