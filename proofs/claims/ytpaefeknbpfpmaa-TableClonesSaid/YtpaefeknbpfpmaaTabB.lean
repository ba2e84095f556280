/- Layer 5: tables: rows of entries stored into; what is gone left out. -/
import Derived.Test.YtpaefeknbpfpmaaTab
import Derived.Test.YtpaefeknbpfpmaaCopy
namespace Go.Proofs.Ytpaefeknbpfpmaa
open Go.RowKit
set_option maxRecDepth 100000

theorem info_ent : (Try.prog.info? 114).map (fun i => (i.zero, i.size, i.bytes)) = some (some (.agg #[.int .i64 0, .int .i64 0, .string ⟨#[]⟩, .int .i64 0, .int .i64 0, .string ⟨#[]⟩, .int .i64 0, .bool false]), 8, 80) := by kernel_rfl
def Ent.agg (e : Ent) : Value := .agg #[.int .i64 e.key.k, .int .i64 e.key.n, .string e.key.t, .int .i64 e.val.k, .int .i64 e.val.n, .string e.val.t, .int .i64 e.ser, .bool e.gone]
def Ent.obj (e : Ent) : Obj := .cells #[.int .i64 e.key.k, .int .i64 e.key.n, .string e.key.t, .int .i64 e.val.k, .int .i64 e.val.n, .string e.val.t, .int .i64 e.ser, .bool e.gone] 114 (0, 0)
theorem rehash_gone (w : World) (x : Ent) : Calls Try.prog 100 #[x.agg] w fun e w' => e = .returned (.bool x.gone) ∧ Keeps (fun _ => False) w w' := by
  obtain ⟨k, v, s, g⟩ := x
  unfold Ent.agg
  refine post_gen fun R hR => ?_
  go_enter Try.func100, Try.ntmps100
  go_wp2
  exact hR.out _ _ ⟨rfl, (Keeps.refl _ _).alloc _⟩
def firstGone (E : List Ent) : Int := if E.any (·.gone) then (E.findIdx (·.gone) : Int) else -1
theorem take_none {E : List Ent} {k : Nat} (hk : k < E.length) (h : (E.take k).any (·.gone) = false) : (E.take (k + 1)).any (·.gone) = E[k].gone := by
  rw [List.take_succ_eq_append_getElem hk, List.any_append, h]; simp
theorem firstGone_at {E : List Ent} {k : Nat} (hk : k < E.length) (h : (E.take k).any (·.gone) = false) (hg : E[k].gone = true) : firstGone E = k := by
  have h1 : E.any (·.gone) = true := List.any_eq_true.2 ⟨_, List.getElem_mem hk, hg⟩
  rw [firstGone, if_pos h1]
  have : E.findIdx (·.gone) = k := by
    rw [List.findIdx_eq hk]
    refine ⟨hg, fun j hj => ?_⟩
    have h2 := List.any_eq_false.1 h
    have h3 : E[j] ∈ E.take k := List.mem_take_iff_getElem.2 ⟨j, by omega, rfl⟩
    simpa using h2 _ h3
  rw [this]
theorem firstGone_none {E : List Ent} (h : E.any (·.gone) = false) : firstGone E = -1 := by
  rw [firstGone, h]; rfl
set_option maxHeartbeats 1000000 in
theorem index_gone (w : World) (A : Option Addr) (c : Nat) (E : List Ent) (h : Ents w A E) (hl : E.length ≤ 1073741824) :
    Calls Try.prog 104 #[.slice A E.length c, .func (.func 100) #[] #[]] w fun e w' => e = .returned (.int .i64 (firstGone E)) ∧ Keeps (fun _ => False) w w' := by
  have HV := hidden h
  clear h
  refine post_gen fun R hR => ?_
  go_enter Try.func104, Try.ntmps104
  go_wp2
  go_loopw [8] (fun i wr => ∃ k : Nat, k ≤ E.length ∧ i = .int .i64 k ∧ Hid ((E.take k).any (·.gone) = false) ∧ Keeps (fun _ => False) w wr) (fun i _ => E.length - (intOf i).toNat)
  case atStart => exact ⟨0, Nat.zero_le _, rfl, hidden rfl, Keeps.refl _ _⟩
  case round =>
    obtain ⟨k, hk, rfl, HN, hK⟩ := hrel
    have HK := hidden hK
    by_cases hlt : k < E.length
    · obtain ⟨ge, oe, rfl, hea⟩ := (HV.out.keeps hK (fun _ _ _ _ h => h)) k E[k] (List.getElem?_eq_getElem hlt)
      obtain ⟨e0, e1, e2, e3, e4, e5, e6, e7⟩ := hea
      have hge := World.block_lt_of_cell? wr _ e0
      have HS := hidden (take_none hlt HN.out)
      have HF := hidden (firstGone_at hlt HN.out)
      have key := hidden (fun W => rehash_gone W E[k])
      unfold Ent.agg at key
      cases hg : E[k].gone with
      | true =>
        rw [hg] at e7
        simp only [hg] at key
        have HF2 := hidden (HF.out hg)
        clear HF
        clear hK
        generalize E[k] = x at *
        go_wp2_with fail
        refine (key.out _).mono ?_
        rintro e w1 ⟨rfl, hK⟩
        have HK1 := hidden (HK.out.trans hK (fun _ _ h => h))
        clear hK
        go_wp2_with fail
        exact hR.out _ _ ⟨show Ending.returned (.int .i64 _) = .returned (.int .i64 _) from ret_int HF2.out.symm, HK1.out⟩
      | false =>
        rw [hg] at e7
        simp only [hg] at key
        have HS2 := hidden (HS.out.trans hg)
        clear HS
        clear hK HF
        generalize E[k] = x at *
        go_wp2_with fail
        refine (key.out _).mono ?_
        rintro e w1 ⟨rfl, hK⟩
        have HK1 := hidden (HK.out.trans hK (fun _ _ h => h))
        clear hK
        go_wp2_with fail
        go_roundw
        case rel => exact ⟨k + 1, hlt, by go_num, HS2, HK1.out⟩
        case measure => simp [intOf]; omega
    · obtain rfl : k = E.length := by omega
      have hn := HN.out
      rw [List.take_length] at hn
      have HF := hidden (firstGone_none hn)
      clear hn
      go_wp2_with fail
      exact hR.out _ _ ⟨show Ending.returned (.int .i64 _) = .returned (.int .i64 _) from ret_int HF.out.symm, HK.out⟩

def put8 (w : World) (g i : Nat) (y : Ent) : World :=
  (((((((w.setCell ⟨g, i * 8, none⟩ (.int .i64 y.key.k)).setCell ⟨g, i * 8 + 1, none⟩ (.int .i64 y.key.n)).setCell ⟨g, i * 8 + 2, none⟩ (.string y.key.t)).setCell ⟨g, i * 8 + 3, none⟩ (.int .i64 y.val.k)).setCell ⟨g, i * 8 + 4, none⟩ (.int .i64 y.val.n)).setCell ⟨g, i * 8 + 5, none⟩ (.string y.val.t)).setCell ⟨g, i * 8 + 6, none⟩ (.int .i64 y.ser)).setCell ⟨g, i * 8 + 7, none⟩ (.bool y.gone)
theorem flatE_set (E : List Ent) (y : Ent) : ∀ i, i < E.length → ((((((((flatE E).set (i * 8) (.int .i64 y.key.k)).set (i * 8 + 1) (.int .i64 y.key.n)).set (i * 8 + 2) (.string y.key.t)).set (i * 8 + 3) (.int .i64 y.val.k)).set (i * 8 + 4) (.int .i64 y.val.n)).set (i * 8 + 5) (.string y.val.t)).set (i * 8 + 6) (.int .i64 y.ser)).set (i * 8 + 7) (.bool y.gone) = flatE (E.set i y) := by
  induction E with
  | nil => intro i h; simp at h
  | cons x xs ih =>
    intro i hi
    have e : flatE (x :: xs) = x.cells ++ flatE xs := by simp [flatE]
    cases i with
    | zero =>
      rw [e]
      simp [Ent.cells, flatE]
    | succ i =>
      have e2 : flatE ((x :: xs).set (i + 1) y) = x.cells ++ flatE (xs.set i y) := by simp [flatE]
      have h8 : x.cells.length = 8 := rfl
      have k : ∀ (L : List Value) (j : Nat) (v : Value), (x.cells ++ L).set ((i + 1) * 8 + j) v = x.cells ++ L.set (i * 8 + j) v := fun L j v => by
        rw [List.set_append_right _ _ (by rw [h8]; omega), h8]
        congr 2
        omega
      have k0 : ∀ (L : List Value) (v : Value), (x.cells ++ L).set ((i + 1) * 8) v = x.cells ++ L.set (i * 8) v := fun L v => k L 0 v
      rw [e, e2, k0, k, k, k, k, k, k, k, ih i (by simpa using hi)]
theorem Row.open8 {w : World} {F : Nat → Prop} {n c : Nat} {A : Option Addr} {E : List Ent} (h : Row w F 114 8 (.slice A n c) n (flatE E)) {i : Nat} (hi : i < E.length) : ∃ g, A = some ⟨g, 0, none⟩ ∧ F g ∧ g < w.heap.size ∧ EntAt w g 0 i E[i] ∧ ∀ j, w.frozen? ⟨g, j, none⟩ = false := by
  obtain ⟨b, o, rfl, hx⟩ := Ents.own h.1 i E[i] (by simp [hi])
  have ho : o = 0 := by
    rcases h.1.2 with ⟨he, _⟩ | ⟨g, cap, cur, he, _⟩
    · simp at he
    · simp at he; exact he.1.2
  subst ho
  exact ⟨b, rfl, h.2 b rfl, World.block_lt_of_cell? w _ hx.c0, hx, fun j => h.1.frozenAt _⟩
theorem Row.put8 {w : World} {F : Nat → Prop} {n c g : Nat} {E : List Ent} (h : Row w F 114 8 (.slice (some ⟨g, 0, none⟩) n c) n (flatE E)) {i : Nat} (hi : i < E.length) (y : Ent) :
    Row (put8 w g i y) F 114 8 (.slice (some ⟨g, 0, none⟩) n c) n (flatE (E.set i y)) := by
  have h3 := (((((((h.1.stored (i * 8) (.int .i64 y.key.k)).1.stored (i * 8 + 1) (.int .i64 y.key.n)).1.stored (i * 8 + 2) (.string y.key.t)).1.stored (i * 8 + 3) (.int .i64 y.val.k)).1.stored (i * 8 + 4) (.int .i64 y.val.n)).1.stored (i * 8 + 5) (.string y.val.t)).1.stored (i * 8 + 6) (.int .i64 y.ser)).1.stored (i * 8 + 7) (.bool y.gone)
  rw [flatE_set E y i hi] at h3
  exact ⟨h3.1, h.2⟩
theorem SameBut.put8 {b : Nat} {w1 w2 : World} (h : SameBut b w1 w2) (i : Nat) (y : Ent) : SameBut b w1 (put8 w2 b i y) := (((((((h.set _ _).set _ _).set _ _).set _ _).set _ _).set _ _).set _ _).set _ _
end Go.Proofs.Ytpaefeknbpfpmaa
