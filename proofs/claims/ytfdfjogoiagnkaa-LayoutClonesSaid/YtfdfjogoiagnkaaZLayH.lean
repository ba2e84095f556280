/- Layer 16: layout: Clone of what can't be. -/
import Derived.Test.YtfdfjogoiagnkaaZLayG
namespace Go.Proofs.Ytfdfjogoiagnkaa
open Go.RowKit
set_option maxRecDepth 100000

section
variable {w : World} {F : Nat → Prop} {hb : Nat} {H : List (Option (Nat × Cl))} {s : HSt} {i p : Nat} {c : Cl}
theorem lay_Clone_val (w : World) (hb : Nat) (v : V) (hk : v.k ≠ 4) :
    Calls Try.prog 32 #[.pointer (some ⟨hb, 0, none⟩), v.val] w fun e w' => e = .returned (.tuple #[v.val, .int .i64 0]) ∧ Keeps (fun _ => False) w w' := by
  obtain ⟨k, n, t⟩ := v
  have j : (k != 4) = true := by simpa using hk
  clear hk
  refine post_gen fun R hR => ?_
  unfold V.val
  go_enter Try.func32, Try.ntmps32
  go_wp2_with fail
  have hV : IsVar ((w.alloc (.cells #[.int .i64 k, .int .i64 n, .string t] 26)).alloc (.cells #[.int .i64 k, .int .i64 n, .string t] 26)) (w.heap.size + 1) ⟨k, n, t⟩ := var2 w _ ⟨k, n, t⟩
  obtain ⟨d0, d1, d2, _⟩ := hV.cells
  exact bodyPost_ret (v := .tuple #[V.val ⟨k, n, t⟩, .int .i64 0]) (by simp [results, Try.results32, go_sem, V.val]) rfl (hR.out _ _ ⟨rfl, ((Keeps.refl _ _).alloc _).alloc _⟩)
set_option maxHeartbeats 4000000 in
theorem lay_Clone_type (h : IsHeap w F hb H s) (hi : H[i]? = some (some (p, c))) (hk : c.kind ≠ 1 ∧ c.kind ≠ 2 ∧ c.kind ≠ 4) :
    Calls Try.prog 32 #[.pointer (some ⟨hb, 0, none⟩), V.val ⟨4, i, ⟨#[]⟩⟩] w fun e w' => e = .returned (.tuple #[V.val V.null, .int .i64 30]) ∧ Keeps (fun _ => False) w w' := by
  have CO := hidden (fun (W : World) (hk' : Keeps (fun _ => False) w W) => heap_Of_ok (h.calm hk') hi 0 ⟨#[]⟩ (.inl rfl))
  have CN := hidden (fun (W : World) => value_Null W)
  unfold V.val at CO CN
  unfold V.null at CN
  obtain ⟨Av, cap, CC⟩ : ∃ (Av : Option Addr) (cap : Nat), Hid (∀ W : World, Keeps (fun _ => False) w W → W.cell? ⟨p, 0, none⟩ = some (.int .i64 c.kind) ∧ W.cell? ⟨p, 1, none⟩ = some (.slice Av c.vals.length cap) ∧ p < W.heap.size) := by
    obtain ⟨Av, cap, lp, tp, An, cn, hblk, -⟩ := held_cell h hi
    refine ⟨Av, cap, hidden (fun W hk' => ?_)⟩
    have hb2 := hk'.heap hblk (fun h => h)
    exact ⟨blk_cell hb2 0, blk_cell hb2 1, blk_lt hb2⟩
  generalize c.kind = kd at *
  generalize c.vals.length = nv at *
  clear h hi
  refine post_gen fun R hR => ?_
  unfold V.val
  go_enter Try.func32, Try.ntmps32
  go_wp2_with fail
  refine (CO.out _ (by repeat (first | exact Keeps.refl _ _ | refine Keeps.alloc ?_ _))).mono ?_
  rintro e w1 ⟨rfl, hK⟩
  have HM1 := hidden ((((Keeps.refl (fun _ => False) w).alloc _).alloc _).trans hK (fun _ _ h => h))
  have HV1 := hidden (show IsVar w1 (w.heap.size + 1) V.null from hK.heap (new2t w _ _) (fun h => h))
  clear hK CO
  have SK := hidden (fun (W : World) (hk' : Keeps (fun _ => False) w1 W) => show W.cell? ⟨p, 0, none⟩ = some (.int .i64 kd) ∧ W.cell? ⟨p, 1, none⟩ = some (.slice Av nv cap) from ⟨(CC.out W (HM1.out.trans hk' (fun _ _ h => h))).1, (CC.out W (HM1.out.trans hk' (fun _ _ h => h))).2.1⟩)
  have hpz := (CC.out w1 HM1.out).2.2
  obtain ⟨n1, n2, n4⟩ := hk
  have m1 : (kd == 1) = false := beq_eq_false_iff_ne.2 n1
  have m2 : (kd == 2) = false := beq_eq_false_iff_ne.2 n2
  have m4 : (kd == 4) = false := beq_eq_false_iff_ne.2 n4
  clear n1 n2 n4
  go_wp2_with fail
  go_region_held3 (fun W => W.cell? ⟨p, 0, none⟩ = some (.int .i64 kd) ∧ W.cell? ⟨p, 1, none⟩ = some (.slice Av nv cap)) (((refine SK.out _ ?_); (repeat (first | exact Keeps.refl _ _ | refine Keeps.alloc ?_ _ | refine Keeps.drewN ?_ _ | refine Keeps.drew ?_)))) (fail)
  all_goals
    obtain ⟨y0, y1⟩ := SK.out w1 (Keeps.refl _ _)
    go_wp2_with fail
    refine (CN.out _).mono ?_
    rintro e w2 ⟨rfl, hK⟩
    have HV2 := hidden ((HV1.out.keeps ((Keeps.refl (fun _ => False) w1).alloc _).drew (fun h => h)).keeps hK (fun h => h))
    have HM2 := hidden ((HM1.out.alloc _).drew.trans hK (fun _ _ h => h))
    clear hK y0 y1
    obtain ⟨v0, v1, v2, v3, v4, v5⟩ := HV2.out.cells
    have hvz := blk_lt HV2.out
    simp only [V.null] at v0 v1 v2
    go_wp2_with fail
    obtain ⟨d0, d1, d2, _⟩ := (HV2.out.set V.null).cells
    simp only [V.null] at d0 d1 d2
    exact bodyPost_ret (v := .tuple #[V.val V.null, .int .i64 30]) (by simp [results, Try.results32, go_sem, d0, d1, d2, V.val, V.null]) rfl (hR.out _ _ ⟨rfl, HM2.out.var (r := w.heap.size + 1) (fun h => by omega) _ _ _⟩)
end
end Go.Proofs.Ytfdfjogoiagnkaa
