/- Layer 5: tables made, told, put in order anew. -/
import Derived.Test.YtpaefeknbpfpmaaTabC
import Derived.OwnWalk
namespace Go.Proofs.Ytpaefeknbpfpmaa
open Go.RowKit
set_option maxRecDepth 100000

theorem new2t (w : World) (o o' : Obj) : ((w.alloc o).alloc o').heap[w.heap.size + 1]? = some o' := by
  have := blk_new (w.alloc o) o'
  rw [show (w.alloc o).heap.size = w.heap.size + 1 by simp] at this
  exact this
def Tb.new : Tb := ⟨[], [], 0, 0, 0⟩
theorem table_New (w : World) : Calls Try.prog 12 #[] w fun e w' => ∃ b F, e = .returned (.pointer (some ⟨b, 0, none⟩)) ∧ IsTab w' F b Tb.new ∧ Keeps (fun _ => False) w w' ∧ Fresh (fun _ => False) F w := by
  refine post_gen fun R hR => ?_
  go_enter Try.func12, Try.ntmps12
  go_wp2_with fail
  exact hR.out _ _ ⟨_, fun k => k = w.heap.size, rfl, ⟨.slice none 0 0, .slice none 0 0, blk_new _ _, rfl, Row.nil _ _ _ _, Row.nil _ _ _ _, fun k hk => by simp; omega⟩, (Keeps.refl _ _).alloc _, fun k hk => .inr (by omega)⟩
theorem table_Len (w : World) (F : Nat → Prop) (b : Nat) (t : Tb) (h : IsTab w F b t) : Calls Try.prog 61 #[.pointer (some ⟨b, 0, none⟩)] w fun e w' => e = .returned (.int .i64 t.live) ∧ w = w' := by
  obtain ⟨ve, vs, hT⟩ := h
  have b2 := blk_cell hT.blk 2
  simp only [List.getElem?_toArray, List.getElem?_cons_zero, List.getElem?_cons_succ] at b2
  clear hT
  refine post_gen fun R hR => ?_
  go_enter Try.func61, Try.ntmps61
  go_wp2_with fail
  exact hR.out _ _ ⟨rfl, rfl⟩
theorem table_Has (w : World) (F : Nat → Prop) (b : Nat) (t : Tb) (key : V) (h : IsTab w F b t) (hs : t.safe) (hk : key.t.size ≤ 140737488351232) :
    Calls Try.prog 69 #[.pointer (some ⟨b, 0, none⟩), key.val] w fun e w' => e = .returned (.bool (findT t key).2) ∧ Keeps (fun _ => False) w w' := by
  have c1 := hidden (fun (W : World) (hK : Keeps (fun _ => False) w W) => table_find W F b t key (h.none hK) hs hk)
  clear h
  unfold V.val at *
  refine post_gen fun R hR => ?_
  go_enter Try.func69, Try.ntmps69
  go_wp2_with fail
  refine (c1.out _ ((Keeps.refl _ w).alloc _)).mono ?_
  rintro e w1 ⟨rfl, hK⟩
  have HK := hidden (((Keeps.refl _ w).alloc _).trans hK (fun _ _ h => h))
  clear hK
  go_wp2_with fail
  exact hR.out _ _ ⟨rfl, HK.out⟩
theorem table_Get_none (w : World) (F : Nat → Prop) (b : Nat) (t : Tb) (key : V) (h : IsTab w F b t) (hs : t.safe) (hk : key.t.size ≤ 140737488351232) (hf : (findT t key).2 = false) :
    Calls Try.prog 60 #[.pointer (some ⟨b, 0, none⟩), key.val] w fun e w' => e = .returned (.tuple #[V.val V.null, .int .i64 3]) ∧ Keeps (fun _ => False) w w' := by
  have c1 := hidden (fun (W : World) (hK : Keeps (fun _ => False) w W) => table_find W F b t key (h.none hK) hs hk)
  rw [hf] at c1
  clear h hf
  unfold V.val at *
  refine post_gen fun R hR => ?_
  go_enter Try.func60, Try.ntmps60
  go_wp2_with fail
  refine (c1.out _ (((Keeps.refl _ w).alloc _).alloc _)).mono ?_
  rintro e w1 ⟨rfl, hK⟩
  have HK := hidden ((((Keeps.refl (fun _ => False) w).alloc _).alloc _).trans hK (fun _ _ h => h))
  have hvv : IsVar w1 (w.heap.size + 1) V.null := hK.heap (new2t w _ _) (fun h => h)
  have HV := hidden hvv
  clear hK hvv c1
  go_wp2_with fail
  refine (value_Null _).mono ?_
  rintro e w2 ⟨rfl, hK⟩
  have HK2 := hidden (HK.out.trans hK (fun _ _ h => h))
  have HV2 := hidden (show IsVar w2 (w.heap.size + 1) V.null from hK.heap HV.out (fun h => h))
  clear hK HV
  obtain ⟨v0, v1, v2, v3, v4, v5⟩ := HV2.out.cells
  have hvz := blk_lt HV2.out
  simp only [V.null] at v0 v1 v2 v3 v4 v5
  unfold V.val V.null
  go_wp2_with fail
  obtain ⟨d0, d1, d2, _⟩ := (HV2.out.set V.null).cells
  simp only [V.null] at d0 d1 d2
  exact bodyPost_ret (v := .tuple #[V.val V.null, .int .i64 3]) (by simp [results, Try.results60, go_sem, d0, d1, d2, V.val, V.null]) rfl (hR.out _ _ ⟨rfl, HK2.out.var (r := w.heap.size + 1) (fun h => by omega) _ _ _⟩)
end Go.Proofs.Ytpaefeknbpfpmaa
