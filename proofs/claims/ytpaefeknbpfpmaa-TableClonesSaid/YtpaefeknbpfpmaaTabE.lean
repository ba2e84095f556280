/- Layer 5: tables: what is found. -/
import Derived.Test.YtpaefeknbpfpmaaTabD
import Derived.Deep.RegionHeld3
namespace Go.Proofs.Ytpaefeknbpfpmaa
open Go.RowKit
set_option maxRecDepth 100000

theorem probe_true {E : List Ent} {S : List Int} {key : V} {h : Nat} (hS : 0 < S.length) (hin : ∀ (i : Nat) (s : Int), S[i]? = some s → s = 0 ∨ s = -1 ∨ (1 ≤ s ∧ s ≤ (E.length : Int))) :
    ∀ (m d : Nat) (f : Option Nat), (probe E S key h m d f).2 = true → ∃ q : Nat, S[(probe E S key h m d f).1]? = some ((q : Int) + 1) ∧ (E.map (·.key))[q]? = some key := by
  intro m
  induction m with
  | zero => intro d f hp; simp [probe] at hp
  | succ m ih =>
    intro d f hp
    have hlt : (h + d) % S.length < S.length := Nat.mod_lt _ hS
    have hg : S[(h + d) % S.length]? = some (S.getD ((h + d) % S.length) 0) := by
      rw [List.getD_eq_getElem?_getD, List.getElem?_eq_getElem hlt]; rfl
    rw [probe] at hp ⊢
    by_cases c1 : S.getD ((h + d) % S.length) 0 = (0 : Int)
    · rw [if_pos c1] at hp; simp at hp
    · rw [if_neg c1] at hp ⊢
      by_cases c2 : S.getD ((h + d) % S.length) 0 = (-1 : Int)
      · rw [if_pos c2] at hp ⊢; exact ih _ _ hp
      · rw [if_neg c2] at hp ⊢
        by_cases c3 : (E.map (·.key))[(S.getD ((h + d) % S.length) 0).toNat - 1]? = some key
        · rw [if_pos c3]
          have := hin _ _ hg
          refine ⟨_, ?_, c3⟩
          rw [hg]
          congr 1
          omega
        · rw [if_neg c3] at hp ⊢; exact ih _ _ hp
theorem findT_true {t : Tb} {key : V} (hs : t.safe) (h : (findT t key).2 = true) : ∃ (q : Nat) (hq : q < t.E.length), t.S[(findT t key).1]? = some ((q : Int) + 1) ∧ t.E[q].key = key := by
  unfold findT at *
  by_cases h0 : t.S.length = 0
  · rw [if_pos h0] at h; simp at h
  · rw [if_neg h0] at h ⊢
    obtain ⟨q, h1, h2⟩ := probe_true (by omega) hs.inE _ _ _ h
    rw [List.getElem?_map] at h2
    obtain ⟨x, hx, hk⟩ := Option.map_eq_some_iff.1 h2
    obtain ⟨hq, he⟩ := List.getElem?_eq_some_iff.1 hx
    exact ⟨q, hq, h1, by rw [he]; exact hk⟩
theorem probe_lt {E : List Ent} {S : List Int} {key : V} {h : Nat} (hS : 0 < S.length) : ∀ (m d : Nat) (f : Option Nat), (∀ x, f = some x → x < S.length) → (probe E S key h m d f).1 < S.length := by
  intro m
  induction m with
  | zero =>
    intro d f hf
    cases f with
    | none => exact hS
    | some x => exact hf x rfl
  | succ m ih =>
    intro d f hf
    have hlt : (h + d) % S.length < S.length := Nat.mod_lt _ hS
    have hfd : f.getD ((h + d) % S.length) < S.length := by
      cases f with
      | none => exact hlt
      | some x => exact hf x rfl
    rw [probe]
    split
    · exact hfd
    · split
      · exact ih _ _ (fun x hx => by simp at hx; omega)
      · split
        · exact hlt
        · exact ih _ _ hf
theorem findT_lt {t : Tb} {key : V} (h : 0 < t.S.length) : (findT t key).1 < t.S.length := by
  unfold findT
  rw [if_neg (by omega)]
  exact probe_lt h _ _ _ (fun x hx => by simp at hx)
theorem slot_cell {w : World} {F : Nat → Prop} {A : Option Addr} {n c : Nat} {S : List Int} (h : Row w F 3 1 (.slice A n c) n (intCells S)) {i : Nat} {s : Int} (hi : S[i]? = some s) : ∃ g, A = some ⟨g, 0, none⟩ ∧ F g ∧ g < w.heap.size ∧ w.cell? ⟨g, i, none⟩ = some (.int .i64 s) ∧ w.frozen? ⟨g, i, none⟩ = false := by
  obtain ⟨b, o, rfl, hc⟩ := Ints.own h.1 i s hi
  have ho : o = 0 := by
    rcases h.1.2 with ⟨he, _⟩ | ⟨g, cap, cur, he, _⟩
    · simp at he
    · simp at he; exact he.1.2
  subst ho
  rw [Nat.zero_add] at hc
  exact ⟨b, rfl, h.2 b rfl, World.block_lt_of_cell? w _ hc, hc, h.1.frozenAt _⟩
set_option maxHeartbeats 4000000 in
theorem table_Get_some (w : World) (F : Nat → Prop) (b : Nat) (t : Tb) (key : V) (h : IsTab w F b t) (hs : t.safe) (hk : key.t.size ≤ 140737488351232) (q : Nat) (hq : q < t.E.length) (hf : (findT t key).2 = true) (hS : t.S[(findT t key).1]? = some ((q : Int) + 1)) :
    Calls Try.prog 60 #[.pointer (some ⟨b, 0, none⟩), key.val] w fun e w' => e = .returned (.tuple #[V.val t.E[q].val, .int .i64 0]) ∧ Keeps (fun _ => False) w w' := by
  have c1 := hidden (fun (W : World) (hK : Keeps (fun _ => False) w W) => table_find W F b t key (h.none hK) hs hk)
  have hi : (findT t key).1 < t.S.length := (List.getElem?_eq_some_iff.1 hS).1
  have hsl : t.S.length ≤ 1073741824 := by
    rcases hs.two with h0 | ⟨m, hm, h0⟩
    · omega
    · rw [h0]; exact Nat.pow_le_pow_right (by decide) hm
  have hel := hs.many
  rw [hf] at c1
  generalize (findT t key).1 = i at *
  obtain ⟨ve, vs, hT⟩ := h
  obtain ⟨Ae, ce, rfl⟩ := hT.ents.form
  obtain ⟨As, cs, rfl⟩ := hT.slots.form
  obtain ⟨gs, rfl, -, -, -, -⟩ := slot_cell hT.slots hS
  obtain ⟨ge, rfl, -, -, -, -⟩ := hT.ents.open8 hq
  have HT := hidden hT
  have HSS := hidden hS
  have HVX := hidden (fun W (hT : TabAt W F b (.slice (some ⟨ge, 0, none⟩) t.E.length ce) (.slice (some ⟨gs, 0, none⟩) t.S.length cs) t) => hT.ents.open8 hq)
  obtain ⟨E, S, live, used, ser⟩ := t
  simp only at *
  clear hT hf hS
  unfold V.val at *
  refine post_gen fun R hR => ?_
  go_enter Try.func60, Try.ntmps60
  go_wp2_with fail
  refine (c1.out _ (((Keeps.refl _ w).alloc _).alloc _)).mono ?_
  rintro e w1 ⟨rfl, hK⟩
  have HK := hidden ((((Keeps.refl (fun _ => False) w).alloc _).alloc _).trans hK (fun _ _ h => h))
  have HV := hidden (show IsVar w1 (w.heap.size + 1) V.null from hK.heap (new2t w _ _) (fun h => h))
  clear hK c1
  have TT := hidden (HT.out.none HK.out)
  have b0 := blk_cell TT.out.blk 0
  have b1 := blk_cell TT.out.blk 1
  simp only [List.getElem?_toArray, List.getElem?_cons_zero, List.getElem?_cons_succ] at b0 b1
  obtain ⟨g', e', -, -, hc, -⟩ := slot_cell TT.out.slots HSS.out
  simp at e'
  subst e'
  obtain ⟨g', e', -, -, ⟨-, -, -, q3, q4, q5, -, -⟩, -⟩ := HVX.out _ TT.out
  simp at e'
  subst e'
  simp only [Nat.zero_add] at q3 q4 q5
  obtain ⟨v0, v1, v2, v3, v4, v5⟩ := HV.out.cells
  simp only [V.null] at v0 v1 v2
  have hvz := blk_lt HV.out
  have hbz := blk_lt TT.out.blk
  have hgz := World.block_lt_of_cell? w1 _ hc
  have hez := World.block_lt_of_cell? w1 _ q3
  have n0 : b < w.heap.size := HT.out.inw b HT.out.here
  have n1 : b ≠ w.heap.size + 1 := by omega
  have m2 : gs < w.heap.size := HT.out.inw gs (HT.out.slots.2 gs rfl)
  have n2 : gs ≠ w.heap.size + 1 := by omega
  have m3 : ge < w.heap.size := HT.out.inw ge (HT.out.ents.2 ge rfl)
  have n3 : ge ≠ w.heap.size + 1 := by omega
  have hq2 : q < E.length := hq
  have hw1 : IntKind.i64.wrap ((q : Int) + 1 - 1) = (q : Int) := by rw [IntKind.wrap_i64]; omega
  generalize E[q] = x at *
  obtain ⟨xk, ⟨yk, yn, yt⟩, xs, xg⟩ := x
  simp only at q3 q4 q5
  go_wp2_with fail
  go_region
  go_wp2_with fail
  obtain ⟨d0, d1, d2, _⟩ := (HV.out.set ⟨yk, yn, yt⟩).cells
  simp only at d0 d1 d2
  exact bodyPost_ret (v := .tuple #[V.val ⟨yk, yn, yt⟩, .int .i64 0]) (by simp [results, Try.results60, go_sem, d0, d1, d2, V.val]) rfl (hR.out _ _ ⟨rfl, (HK.out.var (r := w.heap.size + 1) (fun h => by omega) _ _ _).drew⟩)
end Go.Proofs.Ytpaefeknbpfpmaa
