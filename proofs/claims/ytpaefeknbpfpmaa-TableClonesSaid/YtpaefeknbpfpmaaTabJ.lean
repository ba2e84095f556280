/- Layer 5: tables: Set, Clear, Next. -/
import Derived.Test.YtpaefeknbpfpmaaTabI
namespace Go.Proofs.Ytpaefeknbpfpmaa
open Go.RowKit
set_option maxRecDepth 100000

theorem table_Clear (w : World) (F : Nat → Prop) (b : Nat) (t : Tb) (h : IsTab w F b t) :
    Calls Try.prog 51 #[.pointer (some ⟨b, 0, none⟩)] w fun e w' => e = .returned (.tuple #[]) ∧ IsTab w' F b ⟨[], [], 0, 0, t.ser⟩ ∧ Keeps F w w' := by
  obtain ⟨ve, vs, hT⟩ := h
  obtain ⟨E, S, live, used, ser⟩ := t
  have HT := hidden hT
  obtain ⟨Ae, ce, rfl⟩ := hT.ents.form
  obtain ⟨As, cs, rfl⟩ := hT.slots.form
  have b0 := blk_cell hT.blk 0
  have b1 := blk_cell hT.blk 1
  have b2 := blk_cell hT.blk 2
  have b3 := blk_cell hT.blk 3
  have b4 := blk_cell hT.blk 4
  have f0 := blk_frozen hT.blk 0
  have f1 := blk_frozen hT.blk 1
  have f2 := blk_frozen hT.blk 2
  have f3 := blk_frozen hT.blk 3
  have f4 := blk_frozen hT.blk 4
  have hbz := blk_lt hT.blk
  simp only [List.getElem?_toArray, List.getElem?_cons_zero, List.getElem?_cons_succ] at b0 b1 b2 b3 b4
  clear hT
  refine post_gen fun R hR => ?_
  go_enter Try.func51, Try.ntmps51
  go_wp2_with fail
  go_end0
  have hk : Keeps F w (((((w.setCell ⟨b, 0, none⟩ (.slice none 0 0)).setCell ⟨b, 1, none⟩ (.slice none 0 0)).setCell ⟨b, 2, none⟩ (.int .i64 0)).setCell ⟨b, 3, none⟩ (.int .i64 0)).setCell ⟨b, 4, none⟩ (.int .i64 ser)) :=
    ((((Keeps.refl F w).setCell (p := ⟨b, 0, none⟩) (fun _ => HT.out.here) _).setCell (p := ⟨b, 1, none⟩) (fun _ => HT.out.here) _).setCell (p := ⟨b, 2, none⟩) (fun _ => HT.out.here) _).setCell (p := ⟨b, 3, none⟩) (fun _ => HT.out.here) _ |>.setCell (p := ⟨b, 4, none⟩) (fun _ => HT.out.here) _
  exact hR.out _ _ ⟨rfl, ⟨.slice none 0 0, .slice none 0 0, blk_set (blk_set (blk_set (blk_set (blk_set HT.out.blk 0 _) 1 _) 2 _) 3 _) 4 _, HT.out.here, Row.nil _ _ _ _, Row.nil _ _ _ _, HT.out.inw.keeps hk⟩, hk⟩
theorem table_Set_none (w : World) (F : Nat → Prop) (b : Nat) (t : Tb) (key val : V) (h : IsTab w F b t) (hs : t.safe) (hk : key.t.size ≤ 140737488351232) (hf : (findT t key).2 = false) :
    Calls Try.prog 63 #[.pointer (some ⟨b, 0, none⟩), key.val, val.val] w fun e w' => e = .returned (.int .i64 3) ∧ Keeps (fun _ => False) w w' := by
  have c1 := hidden (fun (W : World) (hK : Keeps (fun _ => False) w W) => table_Has W F b t key (h.none hK) hs hk)
  rw [hf] at c1
  clear h hf
  unfold V.val at *
  refine post_gen fun R hR => ?_
  go_enter Try.func63, Try.ntmps63
  go_wp2_with fail
  refine (c1.out _ (((Keeps.refl _ w).alloc _).alloc _)).mono ?_
  rintro e w1 ⟨rfl, hK⟩
  have HK := hidden ((((Keeps.refl (fun _ => False) w).alloc _).alloc _).trans hK (fun _ _ h => h))
  clear hK
  go_wp2_with fail
  exact hR.out _ _ ⟨rfl, HK.out⟩
theorem table_Set_there (w : World) (F : Nat → Prop) (b : Nat) (t : Tb) (key val : V) (h : IsTab w F b t) (hs : t.safe) (hk : key.t.size ≤ 140737488351232) (h0 : key.k ≠ 0) (q : Nat) (hq : q < t.E.length) (hf : (findT t key).2 = true) (hS : t.S[(findT t key).1]? = some ((q : Int) + 1)) :
    Calls Try.prog 63 #[.pointer (some ⟨b, 0, none⟩), key.val, val.val] w fun e w' => e = .returned (.int .i64 0) ∧ IsTab w' F b { t with E := t.E.set q { t.E[q] with val := val } } ∧ Keeps F w w' := by
  have c1 := hidden (fun (W : World) (hK : Keeps (fun _ => False) w W) => table_Has W F b t key (h.none hK) hs hk)
  have c2 := hidden (fun (W : World) (hK : Keeps (fun _ => False) w W) => table_Put_there W F b t key val (h.none hK) hs hk h0 q hq hf hS)
  rw [hf] at c1
  have HBK := hidden (show IsVar ((w.alloc (.cells #[.int .i64 key.k, .int .i64 key.n, .string key.t] 30)).alloc (.cells #[.int .i64 val.k, .int .i64 val.n, .string val.t] 30)) w.heap.size key from blk_alloc (blk_new w _) _)
  have HBV := hidden (show IsVar ((w.alloc (.cells #[.int .i64 key.k, .int .i64 key.n, .string key.t] 30)).alloc (.cells #[.int .i64 val.k, .int .i64 val.n, .string val.t] 30)) (w.heap.size + 1) val from new2t w _ _)
  clear h hf hS
  unfold V.val at *
  refine post_gen fun R hR => ?_
  go_enter Try.func63, Try.ntmps63
  go_wp2_with fail
  refine (c1.out _ (((Keeps.refl _ w).alloc _).alloc _)).mono ?_
  rintro e w1 ⟨rfl, hK⟩
  have HK := hidden ((((Keeps.refl (fun _ => False) w).alloc _).alloc _).trans hK (fun _ _ h => h))
  have VK := hidden (show IsVar w1 w.heap.size key from hK.heap HBK.out (fun h => h))
  have VV := hidden (show IsVar w1 (w.heap.size + 1) val from hK.heap HBV.out (fun h => h))
  obtain ⟨k0, k1, k2, -⟩ := VK.out.cells
  obtain ⟨v0, v1, v2, -⟩ := VV.out.cells
  have hkz := blk_lt VK.out
  have hvz := blk_lt VV.out
  clear hK
  go_wp2_with fail
  refine (c2.out _ HK.out).mono ?_
  rintro e w2 ⟨rfl, hT, hK⟩
  have HT := hidden hT
  have HK2 := hidden ((HK.out.mono (T := F) (fun _ _ h => h.elim)).trans hK (fun _ _ h => h))
  clear hT hK
  go_wp2_with fail
  exact hR.out _ _ ⟨rfl, HT.out, HK2.out⟩
end Go.Proofs.Ytpaefeknbpfpmaa
