/- Layer 5: tables: all keys, all values, the cells. -/
import Derived.Test.YtfdfjogoiagnkaaZTabT
import Derived.Stop.RegionWithIn
set_option linter.unusedSimpArgs false
set_option linter.unusedVariables false
namespace Go.Proofs.Ytfdfjogoiagnkaa
open Go.RowKit Go.Shelf
set_option maxRecDepth 100000
attribute [local go_sem] Oper.semAt_some

theorem key_of (w : World) (x : Ent) : Calls Try.prog 75 #[x.agg] w fun e w' => e = .returned x.key.val ∧ Keeps (fun _ => False) w w' := by
  refine post_gen fun R hR => ?_
  obtain ⟨⟨kk, kn, kt⟩, ⟨vk, vn, vt⟩, xs, xg⟩ := x
  unfold Ent.agg
  go_enter Try.func75, Try.ntmps75
  go_wp2_with fail
  exact bodyPost_ret (v := .agg #[.int .i64 kk, .int .i64 kn, .string kt]) (by simp [results, Try.results75, go_sem]) rfl (hR.out _ _ ⟨rfl, ((Keeps.refl _ _).alloc _).alloc _⟩)
theorem val_of_ent (w : World) (x : Ent) : Calls Try.prog 76 #[x.agg] w fun e w' => e = .returned x.val.val ∧ Keeps (fun _ => False) w w' := by
  refine post_gen fun R hR => ?_
  obtain ⟨⟨kk, kn, kt⟩, ⟨vk, vn, vt⟩, xs, xg⟩ := x
  unfold Ent.agg
  go_enter Try.func76, Try.ntmps76
  go_wp2_with fail
  exact bodyPost_ret (v := .agg #[.int .i64 vk, .int .i64 vn, .string vt]) (by simp [results, Try.results76, go_sem]) rfl (hR.out _ _ ⟨rfl, ((Keeps.refl _ _).alloc _).alloc _⟩)
/-- An append in a region of a round that draws its order. -/
theorem appIn_step {P : Program} {Fe : Fence} {nn : Nat} {ops : Array Oper} {o : Oper} {a : Act} {Q : Exit → Act → World → Prop} {w : World} {K : Act → World → Prop} {E : Prop} (hg : o.guard = none) (F : Nat → Prop) (s x : Operand) (t tx e : TypeId) (z : Value) (size bytes : Nat) (ho : o.op = .call { callee := .builtin .append, args := #[s, x], argTypes := #[t, tx] })
    (ht : P.underlying t = some (.slice e)) (hinfo : (P.info? e).map (fun i => (i.zero, i.size, i.bytes)) = some (some z, size, bytes)) (hzs : z.cells.size = size) (hsz : 0 < size)
    (v : Value) (n : Nat) (xs : List Value) (hv : a.eval s = v) (hR : Row w F e size v n xs) (xv : Value) (hx : a.eval x = xv) (m : Nat) (news : List Value) (hs : Src P size tx xv m news w) (hb0 : n + m ≤ 9223372036854775807) (hbytes : (n + m) * bytes ≤ 140737488355328)
    (h : ∀ A c w1, Row w1 (fun k => F k ∨ w.heap.size ≤ k) e size (.slice A (n + m) c) (n + m) (xs ++ news) → Keeps (fun k => v.ownBlock = some k) w w1 → K (a.put o.dst (.slice A (n + m) c)) w1) :
    if Region.wanted o (yielded ops a.tmps) = true then Oper.wpIn Fe nn P o a w K Q else E := by
  have hw : Region.wanted o (yielded ops a.tmps) = true := by simp [Region.wanted, hg]
  rw [if_pos hw]
  obtain ⟨A, c, w1, hr, h1, h2⟩ := app_run w F t tx o.type e z size bytes ht hinfo hzs hsz v n xs hR xv m news hs hb0 hbytes
  unfold Oper.wpIn
  rw [Oper.semAt_eq _ _ _ (by rw [ho]; intro c hc; cases hc)]
  refine ⟨?_, ?_⟩
  · intro f hf
    simp [Oper.about, ho, resolve, Target.leads] at hf
  · unfold execOp
    simp only [ho, resolve, invoke, builtin, Sem.run_bind, Sem.run_pure, Result.andThen_ok, List.map_toArray, List.map_cons, List.map_nil, hv, hx, hr]
    exact h A c w1 h1 h2
theorem lit1 (w : World) (y : V) {m : Nat} (hm : m = w.heap.size) : Src Try.prog 3 36 (.slice (some ⟨m, 0, none⟩) 1 1) 1 (flat [y]) (w.alloc (.cells #[.int .i64 y.k, .int .i64 y.n, .string y.t] 26)) :=
  (show Vals (w.alloc (.cells #[.int .i64 y.k, .int .i64 y.n, .string y.t] 26)) (some ⟨m, 0, none⟩) [y] from Vals.lit w [y] 26 hm).src (c := 1) Try.underlying36
theorem Keeps.undr5 {S : Nat → Prop} {w w1 : World} (h : Keeps S w.drew w1) : Keeps S w w1 := ⟨h.os, h.tape, h.output, h.size, h.block⟩
theorem frozen_boxed {W : World} {B : Nat} {t : TypeId} {v : Value} (h : W.heap[B]? = some (.cells #[v] t (0, 0))) : W.frozen? ⟨B, 0, none⟩ = false := Boxed.frozen h
/-- A row of the call's own abides the turn of a block that is no cells. -/
theorem row_own {W W' : World} {F : Nat → Prop} {e size n : Nat} {v : Value} {xs : List Value} {row : Option Nat} (h : Row W F e size v n xs) (hg : W.grownBy W' row) (hr : ∀ r, row = some r → ∃ o : Obj, W.heap[r]? = some o ∧ o.isCells = false) : Row W' F e size v n xs :=
  ⟨ownsRow_move h.1 (fun k hk => (Keeps.grew hg).block k (h.lt k hk) (fun e => by
    obtain ⟨cs, h1⟩ := own_typed h.1 k hk
    obtain ⟨o, h2, h3⟩ := hr k e
    rw [h1] at h2
    cases h2
    cases h3)), h.2⟩
/-- Behind a call, an append onto the collected row, and its store into the box. -/
theorem each_end {w w1 W W2 w5 : World} {B0 : Nat} {L : List Ent} {A A5 : Option Addr} {c c5 tb tf te : Nat} {fv : Value} {g : Ent → V} {pre : List (LiveE L)} {x : LiveE L} {y : V} {o : Obj} {a : Act} (hR : Row W (fun k => w.heap.size ≤ k) te 3 (.slice A pre.length c) pre.length (flat ((came pre).map g)))
    (hO : Boxed W w1.heap.size tb (.slice A pre.length c)) (hF : Boxed W w.heap.size tf fv) (hB : Below w.heap.size w W) (hK2 : Keeps (fun _ => False) W W2)
    (hR5 : Row w5 (fun k => w.heap.size ≤ k ∨ (W2.alloc o).heap.size ≤ k) te 3 (.slice A5 (pre.length + 1) c5) (pre.length + 1) (flat ((came pre).map g) ++ flat [y])) (hK5 : Keeps (fun k => (Value.slice A pre.length c).ownBlock = some k) (W2.alloc o) w5)
    (hte : te ≠ tb) (hte2 : te ≠ tf) (hn : w.heap.size < w1.heap.size) (hs : came (pre ++ [x]) = came pre ++ [x.1]) (hy : g x.1 = y) :
    ownPostG (α := LiveE L) B0 (Below w.heap.size) (fun pre W => ((∃ A c, Boxed W w1.heap.size tb (.slice A pre.length c) ∧ Row W (fun k => w.heap.size ≤ k) te 3 (.slice A pre.length c) pre.length (flat ((came pre).map g))) ∧ Boxed W w.heap.size tf fv) ∧ Below w.heap.size w W) (fun _ _ _ => False) (pre ++ [x]) W .normal a
      (w5.setCell ⟨w1.heap.size, 0, none⟩ (.slice A5 (pre.length + 1) c5)) := by
  have k5 : Keeps (fun k => (Value.slice A pre.length c).ownBlock = some k) W w5 := (((hK2.mono (fun _ _ h => h.elim)).alloc o).trans hK5 (fun _ _ h => h))
  have hb : Below w.heap.size W w5 := k5.below hB.size (fun k hk => hR.2 k hk)
  have hO5 : Boxed w5 w1.heap.size tb (.slice A pre.length c) := k5.heap hO (fun e => hR.ne hO hte _ e rfl)
  have hF5 : Boxed w5 w.heap.size tf fv := k5.heap hF (fun e => hR.ne hF hte2 _ e rfl)
  have hb6 : Below w.heap.size W (w5.setCell ⟨w1.heap.size, 0, none⟩ (.slice A5 (pre.length + 1) c5)) := hb.setCell (p := ⟨w1.heap.size, 0, none⟩) (Nat.le_of_lt hn) _
  have ho : KeepsOthers W w5 := ⟨k5.size, fun k o' ho hc => k5.heap ho (fun e => by
    obtain ⟨cs, h1⟩ := own_typed hR.1 k e
    rw [ho] at h1
    cases h1
    cases hc)⟩
  refine ⟨(ho.trans (KeepsOthers.setCell _ _ _)).from _, hb6, ⟨⟨A5, c5, ?_, ?_⟩, ?_⟩, hB.trans hb6⟩
  · rw [List.length_append]; exact hO5.set _
  · rw [List.length_append, hs, List.map_append, flat_append]
    have h6 : Row w5 (fun k => w.heap.size ≤ k) te 3 (.slice A5 (pre.length + 1) c5) (pre.length + 1) (flat ((came pre).map g) ++ flat [y]) := hR5.mono (fun k _ h => h.elim id (fun h => by have := hK2.size; have := hB.size; simp at h; omega))
    have h7 := h6.set (p := ⟨w1.heap.size, 0, none⟩) (h6.ne hO5 hte) (.slice A5 (pre.length + 1) c5)
    rw [← hy] at h7
    exact h7
  · exact hF5.other (by omega) _
set_option maxHeartbeats 16000000 in
theorem each_keys (w : World) (F : Nat → Prop) (b : Nat) (L : List Ent) (s : Int) (h : IsT w F b L s) (hs : s < 1073741823) :
    Calls Try.prog 74 #[.pointer (some ⟨b, 0, none⟩), .func (.func 75) #[] #[]] w fun e w' => ∃ A c F', e = .returned (.slice A L.length c) ∧ Row w' F' 26 3 (.slice A L.length c) L.length (flat (L.map Ent.key)) ∧ Keeps (fun _ => False) w w' ∧ Fresh (fun _ => False) F' w := by
  have hlok := h.lok
  obtain ⟨t, hT, ho, rfl, rfl⟩ := h
  have hmany := ho.many
  have hmo := hlok.most
  have hlv := ho.liv
  obtain ⟨ve, vs, hTab⟩ := id hT
  have b2 := blk_cell hTab.blk 2
  simp only [List.getElem?_toArray, List.getElem?_cons_zero, List.getElem?_cons_succ] at b2
  rw [hlv] at b2
  have hbz := blk_lt hTab.blk
  have HG := hidden key_of
  clear hTab hlv
  refine post_gen fun R hR => ?_
  refine (callsIn_wide (n := 3)).1 ?_
  refine callsIn_of_wp_marks Try.func74 rfl trivial ?_ rfl
  simp only [Try.ntmps74, List.size_toArray, List.length_cons, List.length_nil, Nat.reduceAdd, Nat.reduceSub, Array.replicate_succ, Array.replicate_zero, List.push_toArray, List.append_toArray, List.nil_append, List.cons_append]
  refine wpIn_wide.2 ?_
  have hb1 : b < w.heap.size + 1 := by omega
  go_wp2_with (first | (at_make; refine mk0_list _ rfl _ _ _ rfl _ _ 3 32 Try.underlying36 info_val _ _ _ (stay t.E).length rfl rfl rfl (by omega) (by omega) ?_; intro w1 hR1 hK1; have HR1 := hidden hR1; have HK1 := hidden hK1; clear hR1 hK1) | (go_at_call 71; refine (callsIn_wide.1 (all_in 3 b _)).mono ?_; rintro e w2 ⟨rfl, rfl⟩))
  have bF0 := Boxed.new w 126 (.func (.func 75) #[] #[])
  have bF1 : Boxed w1 w.heap.size 126 (.func (.func 75) #[] #[]) := HK1.out.heap bF0 (fun h => h)
  have bO := Boxed.new w1 36 (.slice (some ⟨w.heap.size + 1, 0, none⟩) 0 (stay t.E).length)
  have bN := Boxed.new (w1.alloc (.cells #[.slice (some ⟨w.heap.size + 1, 0, none⟩) 0 (stay t.E).length] 36)) 38 (.pointer (some ⟨b, 0, none⟩))
  have hw1 := HK1.out.size
  simp only [World.size_alloc] at bN hw1
  have hK0 : Keeps (fun _ => False) w ((w1.alloc (.cells #[.slice (some ⟨w.heap.size + 1, 0, none⟩) 0 (stay t.E).length] 36)).alloc (.cells #[.pointer (some ⟨b, 0, none⟩)] 38)) := ((((Keeps.refl _ w).alloc _).trans HK1.out (fun _ _ h => h)).alloc _).alloc _
  have bO2 := bO.alloc (.cells #[.pointer (some ⟨b, 0, none⟩)] 38)
  have bF2 := (bF1.alloc (.cells #[.slice (some ⟨w.heap.size + 1, 0, none⟩) 0 (stay t.E).length] 36)).alloc (.cells #[.pointer (some ⟨b, 0, none⟩)] 38)
  have hR2 := ((HR1.out.mono (G := fun k => w.heap.size ≤ k) (fun k _ h => by simp at h; omega)).alloc (.cells #[.slice (some ⟨w.heap.size + 1, 0, none⟩) 0 (stay t.E).length] 36)).alloc (.cells #[.pointer (some ⟨b, 0, none⟩)] 38)
  simp only [World.size_alloc] at hR2
  have hsz : ((w1.alloc (.cells #[.slice (some ⟨w.heap.size + 1, 0, none⟩) 0 (stay t.E).length] 36)).alloc (.cells #[.pointer (some ⟨b, 0, none⟩)] 38)).heap.size = w1.heap.size + 2 := by simp
  obtain ⟨W0, hW0⟩ : ∃ W0, (w1.alloc (.cells #[.slice (some ⟨w.heap.size + 1, 0, none⟩) 0 (stay t.E).length] 36)).alloc (.cells #[.pointer (some ⟨b, 0, none⟩)] 38) = W0 := ⟨_, rfl⟩
  rw [hW0] at bN bO2 bF2 hK0 hsz hR2 ⊢
  clear hW0 bO bF0 bF1 HR1
  have hB0 : Below w.heap.size w W0 := hK0.below (Nat.le_refl _) (fun _ h => h.elim)
  refine (wpIn_wide (n := 3)).1 ?_
  refine wpIn_rangeFunc_ownH (F := Fence.wide) rfl (by omega) (gf := 82) (lb := #[.pointer (some ⟨w1.heap.size + 1, 0, none⟩)]) rfl trivial (enters_of Try.func82 (by kernel_rfl) rfl)
    (all_stops (3 - 1) (w1.heap.size + 1) w.heap.size b (by omega) F t W0 (by omega) bN.cell (hT.none hK0) (fun k hk => hT.inw k hk) (by omega) (by omega)) belowK_t (belowK_b (by omega)) (Below.refl _ _) (fun _ => rfl)
    (fun pre W => ((∃ A c, Boxed W w1.heap.size 36 (.slice A pre.length c) ∧ Row W (fun k => w.heap.size ≤ k) 26 3 (.slice A pre.length c) pre.length (flat ((came pre).map Ent.key))) ∧ Boxed W w.heap.size 126 (.func (.func 75) #[] #[])) ∧ Below w.heap.size w W)
    (fun _ _ _ => False)
    (OwnFrom.and (OwnFrom.and (fun pre X Y row ⟨A, c, h1, h2⟩ hg hr => ⟨A, c, boxed_own (β := Unit) _ _ (fun _ => _) () X Y row h1 hg (fun r e => (hr r e).2), row_own h2 hg (fun r e => (hr r e).2)⟩) (Own.from (boxed_own _ _ _) _)) (ownFrom_below (Nat.le_refl _) (by omega)))
    (fun _ _ _ _ _ hs _ _ => hs)
    ⟨⟨⟨_, _, bO2, hR2⟩, bF2⟩, hB0⟩
    (fun x a' W => ∃ Bx, W.heap[Bx]? = some x.1.obj ∧ a' = { tmps := #[.pointer (some ⟨b, 0, none⟩), .func (.func 75) #[] #[], undef, .pointer (some ⟨w.heap.size, 0, none⟩), .slice none 0 0, .pointer (some ⟨w1.heap.size, 0, none⟩), .pointer (some ⟨Bx, 0, none⟩), .pointer (some ⟨b, 0, none⟩), .pointer (some ⟨b, 0, none⟩), .pointer (some ⟨b, 2, none⟩), .int .i64 (stay t.E).length, .slice (some ⟨w.heap.size + 1, 0, none⟩) 0 (stay t.E).length, .pointer (some ⟨b, 0, none⟩), .func (.func 82) #[] #[.pointer (some ⟨w1.heap.size + 1, 0, none⟩)], x.1.agg, undef, undef, undef, undef, undef, undef, undef], defers := [] })
    (fun x a' _ X Y row hs hg hr => by obtain ⟨Bx, h1, h2⟩ := hs; exact ⟨Bx, own_blk (β := Unit) _ Bx _ _ _ () X Y row h1 hg hr, h2⟩)
    ?assign ?body ?done ?stop
  case assign =>
    rintro l pre x W K ⟨⟨⟨A, c, bO1, hRow⟩, bF1⟩, hB1⟩ hK
    obtain ⟨⟨⟨kk, kn, kt⟩, ⟨vk, vn, vt⟩, xs, xg⟩, hx⟩ := x
    simp only [Ent.agg, Ent.obj] at hK ⊢
    gi_wp2
    exact hK _ _ ((KeepsOthers.alloc _ _).from _) ((Below.refl _ W).alloc hB1.size _) ⟨⟨⟨A, c, bO1.alloc _, hRow.alloc _⟩, bF1.alloc _⟩, hB1.alloc hB1.size _⟩ ⟨W.heap.size, blk_new W _, rfl⟩
  case body =>
    rintro l pre x a' W hl hr ⟨⟨⟨A, c, bO1, hRow⟩, bF1⟩, hB1⟩ ⟨Bx, bX, rfl⟩ hlt
    have HROW := hidden hRow
    have HP := hidden (fun W => HG.out W x.1)
    have cF := bF1.cell
    have cO := bO1.cell
    have fO := bO1.frozen
    obtain ⟨⟨⟨kk, kn, kt⟩, ⟨vk, vn, vt⟩, xs, xg⟩, hx⟩ := x
    simp only [Ent.agg, Ent.obj, V.val] at bX HP ⊢
    have e0 := blk_cell bX 0
    have e1 := blk_cell bX 1
    have e2 := blk_cell bX 2
    have e3 := blk_cell bX 3
    have e4 := blk_cell bX 4
    have e5 := blk_cell bX 5
    have e6 := blk_cell bX 6
    have e7 := blk_cell bX 7
    simp only [List.getElem?_toArray, List.getElem?_cons_zero, List.getElem?_cons_succ] at e0 e1 e2 e3 e4 e5 e6 e7
    have hbx := blk_lt bX
    have hd : 1 ≤ 3 - 1 - 1 := by omega
    have hmx : Try.prog.follows .mixedOrders = true := by kernel_rfl
    clear hRow hlok bX
    gi_wp2
    refine wpIn_region_any (by assumption) ?_
    try (change wpAnyIn _ _ _ _ _ _ _ _ _ (World.drew _))
    refine wpAnyIn_ready (rs := [0, 1, 2]) (by kernel_rfl) (by simp) ?_
    refine AllReadyIn.cons rfl (fun K hK => ?_) ?_
    · go_simp
      refine hK _ _ ?_
      clear hK K
      refine wpAnyIn_ready (rs := [1, 2]) (by kernel_rfl) (by simp) ?_
      refine AllReadyIn.cons rfl (fun K hK => ?_) ?_
      · go_simp
        refine hK _ _ ?_
        clear hK K
        refine wpAnyIn_ready (rs := [2]) (by kernel_rfl) (by simp) ?_
        refine AllReadyIn.cons rfl (fun K hK => ?_) ?_
        · go_simp
          refine hK _ _ ?_
          clear hK K
          refine wpAnyIn_ready (rs := [3]) (by kernel_rfl) (by simp) ?_
          refine AllReadyIn.cons rfl (fun K hK => ?_) ?_
          · go_simp
            gi_wp2_with (refine ⟨trivial, ?_⟩; gi_at_call 75; refine (CallsIn.inRound l (callsIn_wide.2 (HP.out _))).mono ?_; rintro e W2 ⟨rfl, hK2⟩; have HK2 := hidden (Keeps.undr5 hK2); have cO2 := HK2.out.cell cO (fun h => h); have fO2 := (frozen_boxed (HK2.out.heap bO1 (fun h => h))); have cF2 := HK2.out.cell cF (fun h => h); have hl2 := blk_lt (HK2.out.heap bO1 (fun h => h)); clear hK2)
            refine wpAnyIn_ready (rs := [4]) (by kernel_rfl) (by simp) ?_
            refine AllReadyIn.cons rfl (fun K hK => ?_) ?_
            · go_simp
              refine hK _ _ ?_
              clear hK K
              refine wpAnyIn_ready (rs := [5]) (by kernel_rfl) (by simp) ?_
              refine AllReadyIn.cons rfl (fun K hK => ?_) ?_
              · refine appIn_step rfl (fun k => w.heap.size ≤ k) _ _ _ _ _ _ 3 32 rfl Try.underlying36 info_val rfl (by decide) _ _ _ rfl ((HROW.out.keeps HK2.out (Apart.no _)).alloc _) _ rfl 1 (flat [⟨kk, kn, kt⟩]) (lit1 _ ⟨kk, kn, kt⟩ rfl) (by omega) (by omega) ?_
                intro A5 c5 w5 hR5 hK5
                have HR5 := hidden hR5
                have HK5 := hidden hK5
                have bO5 : Boxed w5 w1.heap.size 36 (.slice A pre.length c) := HK5.out.heap (blk_alloc (HK2.out.heap bO1 (fun h => h)) _) (fun e => ((HROW.out.keeps HK2.out (Apart.no _)).ne (HK2.out.heap bO1 (fun h => h)) (by decide) _ e) rfl)
                have cO5 := bO5.cell
                have fO5 := bO5.frozen
                clear hR5 hK5
                refine hK _ _ ?_
                clear hK K
                refine wpAnyIn_ready (rs := [6]) (by kernel_rfl) (by simp) ?_
                refine AllReadyIn.cons rfl (fun K hK => ?_) ?_
                · go_simp
                  refine hK _ _ ?_
                  clear hK K
                  refine wpAnyIn_done (by kernel_rfl) ?_ _
                  gi_wp2
                  exact each_end HROW.out bO1 bF1 hB1 HK2.out HR5.out HK5.out (by decide) (by decide) (by omega) (came_snoc pre ⟨⟨⟨kk, kn, kt⟩, ⟨vk, vn, vt⟩, xs, xg⟩, hx⟩) rfl
                exact AllReadyIn.nil
              exact AllReadyIn.nil
            exact AllReadyIn.nil
          exact AllReadyIn.nil
        exact AllReadyIn.nil
      refine AllReadyIn.cons rfl (fun K hK => ?_) ?_
      · go_simp
        refine hK _ _ ?_
        clear hK K
        refine wpAnyIn_ready (rs := [1]) (by kernel_rfl) (by simp) ?_
        refine AllReadyIn.cons rfl (fun K hK => ?_) ?_
        · go_simp
          refine hK _ _ ?_
          clear hK K
          refine wpAnyIn_ready (rs := [3]) (by kernel_rfl) (by simp) ?_
          refine AllReadyIn.cons rfl (fun K hK => ?_) ?_
          · go_simp
            gi_wp2_with (refine ⟨trivial, ?_⟩; gi_at_call 75; refine (CallsIn.inRound l (callsIn_wide.2 (HP.out _))).mono ?_; rintro e W2 ⟨rfl, hK2⟩; have HK2 := hidden (Keeps.undr5 hK2); have cO2 := HK2.out.cell cO (fun h => h); have fO2 := (frozen_boxed (HK2.out.heap bO1 (fun h => h))); have cF2 := HK2.out.cell cF (fun h => h); have hl2 := blk_lt (HK2.out.heap bO1 (fun h => h)); clear hK2)
            refine wpAnyIn_ready (rs := [4]) (by kernel_rfl) (by simp) ?_
            refine AllReadyIn.cons rfl (fun K hK => ?_) ?_
            · go_simp
              refine hK _ _ ?_
              clear hK K
              refine wpAnyIn_ready (rs := [5]) (by kernel_rfl) (by simp) ?_
              refine AllReadyIn.cons rfl (fun K hK => ?_) ?_
              · refine appIn_step rfl (fun k => w.heap.size ≤ k) _ _ _ _ _ _ 3 32 rfl Try.underlying36 info_val rfl (by decide) _ _ _ rfl ((HROW.out.keeps HK2.out (Apart.no _)).alloc _) _ rfl 1 (flat [⟨kk, kn, kt⟩]) (lit1 _ ⟨kk, kn, kt⟩ rfl) (by omega) (by omega) ?_
                intro A5 c5 w5 hR5 hK5
                have HR5 := hidden hR5
                have HK5 := hidden hK5
                have bO5 : Boxed w5 w1.heap.size 36 (.slice A pre.length c) := HK5.out.heap (blk_alloc (HK2.out.heap bO1 (fun h => h)) _) (fun e => ((HROW.out.keeps HK2.out (Apart.no _)).ne (HK2.out.heap bO1 (fun h => h)) (by decide) _ e) rfl)
                have cO5 := bO5.cell
                have fO5 := bO5.frozen
                clear hR5 hK5
                refine hK _ _ ?_
                clear hK K
                refine wpAnyIn_ready (rs := [6]) (by kernel_rfl) (by simp) ?_
                refine AllReadyIn.cons rfl (fun K hK => ?_) ?_
                · go_simp
                  refine hK _ _ ?_
                  clear hK K
                  refine wpAnyIn_done (by kernel_rfl) ?_ _
                  gi_wp2
                  exact each_end HROW.out bO1 bF1 hB1 HK2.out HR5.out HK5.out (by decide) (by decide) (by omega) (came_snoc pre ⟨⟨⟨kk, kn, kt⟩, ⟨vk, vn, vt⟩, xs, xg⟩, hx⟩) rfl
                exact AllReadyIn.nil
              exact AllReadyIn.nil
            exact AllReadyIn.nil
          exact AllReadyIn.nil
        exact AllReadyIn.nil
      exact AllReadyIn.nil
    refine AllReadyIn.cons rfl (fun K hK => ?_) ?_
    · go_simp
      refine hK _ _ ?_
      clear hK K
      refine wpAnyIn_ready (rs := [0, 2]) (by kernel_rfl) (by simp) ?_
      refine AllReadyIn.cons rfl (fun K hK => ?_) ?_
      · go_simp
        refine hK _ _ ?_
        clear hK K
        refine wpAnyIn_ready (rs := [2]) (by kernel_rfl) (by simp) ?_
        refine AllReadyIn.cons rfl (fun K hK => ?_) ?_
        · go_simp
          refine hK _ _ ?_
          clear hK K
          refine wpAnyIn_ready (rs := [3]) (by kernel_rfl) (by simp) ?_
          refine AllReadyIn.cons rfl (fun K hK => ?_) ?_
          · go_simp
            gi_wp2_with (refine ⟨trivial, ?_⟩; gi_at_call 75; refine (CallsIn.inRound l (callsIn_wide.2 (HP.out _))).mono ?_; rintro e W2 ⟨rfl, hK2⟩; have HK2 := hidden (Keeps.undr5 hK2); have cO2 := HK2.out.cell cO (fun h => h); have fO2 := (frozen_boxed (HK2.out.heap bO1 (fun h => h))); have cF2 := HK2.out.cell cF (fun h => h); have hl2 := blk_lt (HK2.out.heap bO1 (fun h => h)); clear hK2)
            refine wpAnyIn_ready (rs := [4]) (by kernel_rfl) (by simp) ?_
            refine AllReadyIn.cons rfl (fun K hK => ?_) ?_
            · go_simp
              refine hK _ _ ?_
              clear hK K
              refine wpAnyIn_ready (rs := [5]) (by kernel_rfl) (by simp) ?_
              refine AllReadyIn.cons rfl (fun K hK => ?_) ?_
              · refine appIn_step rfl (fun k => w.heap.size ≤ k) _ _ _ _ _ _ 3 32 rfl Try.underlying36 info_val rfl (by decide) _ _ _ rfl ((HROW.out.keeps HK2.out (Apart.no _)).alloc _) _ rfl 1 (flat [⟨kk, kn, kt⟩]) (lit1 _ ⟨kk, kn, kt⟩ rfl) (by omega) (by omega) ?_
                intro A5 c5 w5 hR5 hK5
                have HR5 := hidden hR5
                have HK5 := hidden hK5
                have bO5 : Boxed w5 w1.heap.size 36 (.slice A pre.length c) := HK5.out.heap (blk_alloc (HK2.out.heap bO1 (fun h => h)) _) (fun e => ((HROW.out.keeps HK2.out (Apart.no _)).ne (HK2.out.heap bO1 (fun h => h)) (by decide) _ e) rfl)
                have cO5 := bO5.cell
                have fO5 := bO5.frozen
                clear hR5 hK5
                refine hK _ _ ?_
                clear hK K
                refine wpAnyIn_ready (rs := [6]) (by kernel_rfl) (by simp) ?_
                refine AllReadyIn.cons rfl (fun K hK => ?_) ?_
                · go_simp
                  refine hK _ _ ?_
                  clear hK K
                  refine wpAnyIn_done (by kernel_rfl) ?_ _
                  gi_wp2
                  exact each_end HROW.out bO1 bF1 hB1 HK2.out HR5.out HK5.out (by decide) (by decide) (by omega) (came_snoc pre ⟨⟨⟨kk, kn, kt⟩, ⟨vk, vn, vt⟩, xs, xg⟩, hx⟩) rfl
                exact AllReadyIn.nil
              exact AllReadyIn.nil
            exact AllReadyIn.nil
          exact AllReadyIn.nil
        exact AllReadyIn.nil
      refine AllReadyIn.cons rfl (fun K hK => ?_) ?_
      · go_simp
        refine hK _ _ ?_
        clear hK K
        refine wpAnyIn_ready (rs := [0, 3]) (by kernel_rfl) (by simp) ?_
        refine AllReadyIn.cons rfl (fun K hK => ?_) ?_
        · go_simp
          refine hK _ _ ?_
          clear hK K
          refine wpAnyIn_ready (rs := [3]) (by kernel_rfl) (by simp) ?_
          refine AllReadyIn.cons rfl (fun K hK => ?_) ?_
          · go_simp
            gi_wp2_with (refine ⟨trivial, ?_⟩; gi_at_call 75; refine (CallsIn.inRound l (callsIn_wide.2 (HP.out _))).mono ?_; rintro e W2 ⟨rfl, hK2⟩; have HK2 := hidden (Keeps.undr5 hK2); have cO2 := HK2.out.cell cO (fun h => h); have fO2 := (frozen_boxed (HK2.out.heap bO1 (fun h => h))); have cF2 := HK2.out.cell cF (fun h => h); have hl2 := blk_lt (HK2.out.heap bO1 (fun h => h)); clear hK2)
            refine wpAnyIn_ready (rs := [4]) (by kernel_rfl) (by simp) ?_
            refine AllReadyIn.cons rfl (fun K hK => ?_) ?_
            · go_simp
              refine hK _ _ ?_
              clear hK K
              refine wpAnyIn_ready (rs := [5]) (by kernel_rfl) (by simp) ?_
              refine AllReadyIn.cons rfl (fun K hK => ?_) ?_
              · refine appIn_step rfl (fun k => w.heap.size ≤ k) _ _ _ _ _ _ 3 32 rfl Try.underlying36 info_val rfl (by decide) _ _ _ rfl ((HROW.out.keeps HK2.out (Apart.no _)).alloc _) _ rfl 1 (flat [⟨kk, kn, kt⟩]) (lit1 _ ⟨kk, kn, kt⟩ rfl) (by omega) (by omega) ?_
                intro A5 c5 w5 hR5 hK5
                have HR5 := hidden hR5
                have HK5 := hidden hK5
                have bO5 : Boxed w5 w1.heap.size 36 (.slice A pre.length c) := HK5.out.heap (blk_alloc (HK2.out.heap bO1 (fun h => h)) _) (fun e => ((HROW.out.keeps HK2.out (Apart.no _)).ne (HK2.out.heap bO1 (fun h => h)) (by decide) _ e) rfl)
                have cO5 := bO5.cell
                have fO5 := bO5.frozen
                clear hR5 hK5
                refine hK _ _ ?_
                clear hK K
                refine wpAnyIn_ready (rs := [6]) (by kernel_rfl) (by simp) ?_
                refine AllReadyIn.cons rfl (fun K hK => ?_) ?_
                · go_simp
                  refine hK _ _ ?_
                  clear hK K
                  refine wpAnyIn_done (by kernel_rfl) ?_ _
                  gi_wp2
                  exact each_end HROW.out bO1 bF1 hB1 HK2.out HR5.out HK5.out (by decide) (by decide) (by omega) (came_snoc pre ⟨⟨⟨kk, kn, kt⟩, ⟨vk, vn, vt⟩, xs, xg⟩, hx⟩) rfl
                exact AllReadyIn.nil
              exact AllReadyIn.nil
            exact AllReadyIn.nil
          exact AllReadyIn.nil
        refine AllReadyIn.cons rfl (fun K hK => ?_) ?_
        · go_simp
          gi_wp2_with (refine ⟨trivial, ?_⟩; gi_at_call 75; refine (CallsIn.inRound l (callsIn_wide.2 (HP.out _))).mono ?_; rintro e W2 ⟨rfl, hK2⟩; have HK2 := hidden (Keeps.undr5 hK2); have cO2 := HK2.out.cell cO (fun h => h); have fO2 := (frozen_boxed (HK2.out.heap bO1 (fun h => h))); have cF2 := HK2.out.cell cF (fun h => h); have hl2 := blk_lt (HK2.out.heap bO1 (fun h => h)); clear hK2)
          refine wpAnyIn_ready (rs := [0, 4]) (by kernel_rfl) (by simp) ?_
          refine AllReadyIn.cons rfl (fun K hK => ?_) ?_
          · go_simp
            refine hK _ _ ?_
            clear hK K
            refine wpAnyIn_ready (rs := [4]) (by kernel_rfl) (by simp) ?_
            refine AllReadyIn.cons rfl (fun K hK => ?_) ?_
            · go_simp
              refine hK _ _ ?_
              clear hK K
              refine wpAnyIn_ready (rs := [5]) (by kernel_rfl) (by simp) ?_
              refine AllReadyIn.cons rfl (fun K hK => ?_) ?_
              · refine appIn_step rfl (fun k => w.heap.size ≤ k) _ _ _ _ _ _ 3 32 rfl Try.underlying36 info_val rfl (by decide) _ _ _ rfl ((HROW.out.keeps HK2.out (Apart.no _)).alloc _) _ rfl 1 (flat [⟨kk, kn, kt⟩]) (lit1 _ ⟨kk, kn, kt⟩ rfl) (by omega) (by omega) ?_
                intro A5 c5 w5 hR5 hK5
                have HR5 := hidden hR5
                have HK5 := hidden hK5
                have bO5 : Boxed w5 w1.heap.size 36 (.slice A pre.length c) := HK5.out.heap (blk_alloc (HK2.out.heap bO1 (fun h => h)) _) (fun e => ((HROW.out.keeps HK2.out (Apart.no _)).ne (HK2.out.heap bO1 (fun h => h)) (by decide) _ e) rfl)
                have cO5 := bO5.cell
                have fO5 := bO5.frozen
                clear hR5 hK5
                refine hK _ _ ?_
                clear hK K
                refine wpAnyIn_ready (rs := [6]) (by kernel_rfl) (by simp) ?_
                refine AllReadyIn.cons rfl (fun K hK => ?_) ?_
                · go_simp
                  refine hK _ _ ?_
                  clear hK K
                  refine wpAnyIn_done (by kernel_rfl) ?_ _
                  gi_wp2
                  exact each_end HROW.out bO1 bF1 hB1 HK2.out HR5.out HK5.out (by decide) (by decide) (by omega) (came_snoc pre ⟨⟨⟨kk, kn, kt⟩, ⟨vk, vn, vt⟩, xs, xg⟩, hx⟩) rfl
                exact AllReadyIn.nil
              exact AllReadyIn.nil
            exact AllReadyIn.nil
          refine AllReadyIn.cons rfl (fun K hK => ?_) ?_
          · go_simp
            refine hK _ _ ?_
            clear hK K
            refine wpAnyIn_ready (rs := [0]) (by kernel_rfl) (by simp) ?_
            refine AllReadyIn.cons rfl (fun K hK => ?_) ?_
            · go_simp
              refine hK _ _ ?_
              clear hK K
              refine wpAnyIn_ready (rs := [5]) (by kernel_rfl) (by simp) ?_
              refine AllReadyIn.cons rfl (fun K hK => ?_) ?_
              · refine appIn_step rfl (fun k => w.heap.size ≤ k) _ _ _ _ _ _ 3 32 rfl Try.underlying36 info_val rfl (by decide) _ _ _ rfl ((HROW.out.keeps HK2.out (Apart.no _)).alloc _) _ rfl 1 (flat [⟨kk, kn, kt⟩]) (lit1 _ ⟨kk, kn, kt⟩ rfl) (by omega) (by omega) ?_
                intro A5 c5 w5 hR5 hK5
                have HR5 := hidden hR5
                have HK5 := hidden hK5
                have bO5 : Boxed w5 w1.heap.size 36 (.slice A pre.length c) := HK5.out.heap (blk_alloc (HK2.out.heap bO1 (fun h => h)) _) (fun e => ((HROW.out.keeps HK2.out (Apart.no _)).ne (HK2.out.heap bO1 (fun h => h)) (by decide) _ e) rfl)
                have cO5 := bO5.cell
                have fO5 := bO5.frozen
                clear hR5 hK5
                refine hK _ _ ?_
                clear hK K
                refine wpAnyIn_ready (rs := [6]) (by kernel_rfl) (by simp) ?_
                refine AllReadyIn.cons rfl (fun K hK => ?_) ?_
                · go_simp
                  refine hK _ _ ?_
                  clear hK K
                  refine wpAnyIn_done (by kernel_rfl) ?_ _
                  gi_wp2
                  exact each_end HROW.out bO1 bF1 hB1 HK2.out HR5.out HK5.out (by decide) (by decide) (by omega) (came_snoc pre ⟨⟨⟨kk, kn, kt⟩, ⟨vk, vn, vt⟩, xs, xg⟩, hx⟩) rfl
                exact AllReadyIn.nil
              exact AllReadyIn.nil
            exact AllReadyIn.nil
          exact AllReadyIn.nil
        exact AllReadyIn.nil
      exact AllReadyIn.nil
    refine AllReadyIn.cons rfl (fun K hK => ?_) ?_
    · go_simp
      refine hK _ _ ?_
      clear hK K
      refine wpAnyIn_ready (rs := [0, 1]) (by kernel_rfl) (by simp) ?_
      refine AllReadyIn.cons rfl (fun K hK => ?_) ?_
      · go_simp
        refine hK _ _ ?_
        clear hK K
        refine wpAnyIn_ready (rs := [1]) (by kernel_rfl) (by simp) ?_
        refine AllReadyIn.cons rfl (fun K hK => ?_) ?_
        · go_simp
          refine hK _ _ ?_
          clear hK K
          refine wpAnyIn_ready (rs := [3]) (by kernel_rfl) (by simp) ?_
          refine AllReadyIn.cons rfl (fun K hK => ?_) ?_
          · go_simp
            gi_wp2_with (refine ⟨trivial, ?_⟩; gi_at_call 75; refine (CallsIn.inRound l (callsIn_wide.2 (HP.out _))).mono ?_; rintro e W2 ⟨rfl, hK2⟩; have HK2 := hidden (Keeps.undr5 hK2); have cO2 := HK2.out.cell cO (fun h => h); have fO2 := (frozen_boxed (HK2.out.heap bO1 (fun h => h))); have cF2 := HK2.out.cell cF (fun h => h); have hl2 := blk_lt (HK2.out.heap bO1 (fun h => h)); clear hK2)
            refine wpAnyIn_ready (rs := [4]) (by kernel_rfl) (by simp) ?_
            refine AllReadyIn.cons rfl (fun K hK => ?_) ?_
            · go_simp
              refine hK _ _ ?_
              clear hK K
              refine wpAnyIn_ready (rs := [5]) (by kernel_rfl) (by simp) ?_
              refine AllReadyIn.cons rfl (fun K hK => ?_) ?_
              · refine appIn_step rfl (fun k => w.heap.size ≤ k) _ _ _ _ _ _ 3 32 rfl Try.underlying36 info_val rfl (by decide) _ _ _ rfl ((HROW.out.keeps HK2.out (Apart.no _)).alloc _) _ rfl 1 (flat [⟨kk, kn, kt⟩]) (lit1 _ ⟨kk, kn, kt⟩ rfl) (by omega) (by omega) ?_
                intro A5 c5 w5 hR5 hK5
                have HR5 := hidden hR5
                have HK5 := hidden hK5
                have bO5 : Boxed w5 w1.heap.size 36 (.slice A pre.length c) := HK5.out.heap (blk_alloc (HK2.out.heap bO1 (fun h => h)) _) (fun e => ((HROW.out.keeps HK2.out (Apart.no _)).ne (HK2.out.heap bO1 (fun h => h)) (by decide) _ e) rfl)
                have cO5 := bO5.cell
                have fO5 := bO5.frozen
                clear hR5 hK5
                refine hK _ _ ?_
                clear hK K
                refine wpAnyIn_ready (rs := [6]) (by kernel_rfl) (by simp) ?_
                refine AllReadyIn.cons rfl (fun K hK => ?_) ?_
                · go_simp
                  refine hK _ _ ?_
                  clear hK K
                  refine wpAnyIn_done (by kernel_rfl) ?_ _
                  gi_wp2
                  exact each_end HROW.out bO1 bF1 hB1 HK2.out HR5.out HK5.out (by decide) (by decide) (by omega) (came_snoc pre ⟨⟨⟨kk, kn, kt⟩, ⟨vk, vn, vt⟩, xs, xg⟩, hx⟩) rfl
                exact AllReadyIn.nil
              exact AllReadyIn.nil
            exact AllReadyIn.nil
          exact AllReadyIn.nil
        exact AllReadyIn.nil
      refine AllReadyIn.cons rfl (fun K hK => ?_) ?_
      · go_simp
        refine hK _ _ ?_
        clear hK K
        refine wpAnyIn_ready (rs := [0, 3]) (by kernel_rfl) (by simp) ?_
        refine AllReadyIn.cons rfl (fun K hK => ?_) ?_
        · go_simp
          refine hK _ _ ?_
          clear hK K
          refine wpAnyIn_ready (rs := [3]) (by kernel_rfl) (by simp) ?_
          refine AllReadyIn.cons rfl (fun K hK => ?_) ?_
          · go_simp
            gi_wp2_with (refine ⟨trivial, ?_⟩; gi_at_call 75; refine (CallsIn.inRound l (callsIn_wide.2 (HP.out _))).mono ?_; rintro e W2 ⟨rfl, hK2⟩; have HK2 := hidden (Keeps.undr5 hK2); have cO2 := HK2.out.cell cO (fun h => h); have fO2 := (frozen_boxed (HK2.out.heap bO1 (fun h => h))); have cF2 := HK2.out.cell cF (fun h => h); have hl2 := blk_lt (HK2.out.heap bO1 (fun h => h)); clear hK2)
            refine wpAnyIn_ready (rs := [4]) (by kernel_rfl) (by simp) ?_
            refine AllReadyIn.cons rfl (fun K hK => ?_) ?_
            · go_simp
              refine hK _ _ ?_
              clear hK K
              refine wpAnyIn_ready (rs := [5]) (by kernel_rfl) (by simp) ?_
              refine AllReadyIn.cons rfl (fun K hK => ?_) ?_
              · refine appIn_step rfl (fun k => w.heap.size ≤ k) _ _ _ _ _ _ 3 32 rfl Try.underlying36 info_val rfl (by decide) _ _ _ rfl ((HROW.out.keeps HK2.out (Apart.no _)).alloc _) _ rfl 1 (flat [⟨kk, kn, kt⟩]) (lit1 _ ⟨kk, kn, kt⟩ rfl) (by omega) (by omega) ?_
                intro A5 c5 w5 hR5 hK5
                have HR5 := hidden hR5
                have HK5 := hidden hK5
                have bO5 : Boxed w5 w1.heap.size 36 (.slice A pre.length c) := HK5.out.heap (blk_alloc (HK2.out.heap bO1 (fun h => h)) _) (fun e => ((HROW.out.keeps HK2.out (Apart.no _)).ne (HK2.out.heap bO1 (fun h => h)) (by decide) _ e) rfl)
                have cO5 := bO5.cell
                have fO5 := bO5.frozen
                clear hR5 hK5
                refine hK _ _ ?_
                clear hK K
                refine wpAnyIn_ready (rs := [6]) (by kernel_rfl) (by simp) ?_
                refine AllReadyIn.cons rfl (fun K hK => ?_) ?_
                · go_simp
                  refine hK _ _ ?_
                  clear hK K
                  refine wpAnyIn_done (by kernel_rfl) ?_ _
                  gi_wp2
                  exact each_end HROW.out bO1 bF1 hB1 HK2.out HR5.out HK5.out (by decide) (by decide) (by omega) (came_snoc pre ⟨⟨⟨kk, kn, kt⟩, ⟨vk, vn, vt⟩, xs, xg⟩, hx⟩) rfl
                exact AllReadyIn.nil
              exact AllReadyIn.nil
            exact AllReadyIn.nil
          exact AllReadyIn.nil
        refine AllReadyIn.cons rfl (fun K hK => ?_) ?_
        · go_simp
          gi_wp2_with (refine ⟨trivial, ?_⟩; gi_at_call 75; refine (CallsIn.inRound l (callsIn_wide.2 (HP.out _))).mono ?_; rintro e W2 ⟨rfl, hK2⟩; have HK2 := hidden (Keeps.undr5 hK2); have cO2 := HK2.out.cell cO (fun h => h); have fO2 := (frozen_boxed (HK2.out.heap bO1 (fun h => h))); have cF2 := HK2.out.cell cF (fun h => h); have hl2 := blk_lt (HK2.out.heap bO1 (fun h => h)); clear hK2)
          refine wpAnyIn_ready (rs := [0, 4]) (by kernel_rfl) (by simp) ?_
          refine AllReadyIn.cons rfl (fun K hK => ?_) ?_
          · go_simp
            refine hK _ _ ?_
            clear hK K
            refine wpAnyIn_ready (rs := [4]) (by kernel_rfl) (by simp) ?_
            refine AllReadyIn.cons rfl (fun K hK => ?_) ?_
            · go_simp
              refine hK _ _ ?_
              clear hK K
              refine wpAnyIn_ready (rs := [5]) (by kernel_rfl) (by simp) ?_
              refine AllReadyIn.cons rfl (fun K hK => ?_) ?_
              · refine appIn_step rfl (fun k => w.heap.size ≤ k) _ _ _ _ _ _ 3 32 rfl Try.underlying36 info_val rfl (by decide) _ _ _ rfl ((HROW.out.keeps HK2.out (Apart.no _)).alloc _) _ rfl 1 (flat [⟨kk, kn, kt⟩]) (lit1 _ ⟨kk, kn, kt⟩ rfl) (by omega) (by omega) ?_
                intro A5 c5 w5 hR5 hK5
                have HR5 := hidden hR5
                have HK5 := hidden hK5
                have bO5 : Boxed w5 w1.heap.size 36 (.slice A pre.length c) := HK5.out.heap (blk_alloc (HK2.out.heap bO1 (fun h => h)) _) (fun e => ((HROW.out.keeps HK2.out (Apart.no _)).ne (HK2.out.heap bO1 (fun h => h)) (by decide) _ e) rfl)
                have cO5 := bO5.cell
                have fO5 := bO5.frozen
                clear hR5 hK5
                refine hK _ _ ?_
                clear hK K
                refine wpAnyIn_ready (rs := [6]) (by kernel_rfl) (by simp) ?_
                refine AllReadyIn.cons rfl (fun K hK => ?_) ?_
                · go_simp
                  refine hK _ _ ?_
                  clear hK K
                  refine wpAnyIn_done (by kernel_rfl) ?_ _
                  gi_wp2
                  exact each_end HROW.out bO1 bF1 hB1 HK2.out HR5.out HK5.out (by decide) (by decide) (by omega) (came_snoc pre ⟨⟨⟨kk, kn, kt⟩, ⟨vk, vn, vt⟩, xs, xg⟩, hx⟩) rfl
                exact AllReadyIn.nil
              exact AllReadyIn.nil
            exact AllReadyIn.nil
          refine AllReadyIn.cons rfl (fun K hK => ?_) ?_
          · go_simp
            refine hK _ _ ?_
            clear hK K
            refine wpAnyIn_ready (rs := [0]) (by kernel_rfl) (by simp) ?_
            refine AllReadyIn.cons rfl (fun K hK => ?_) ?_
            · go_simp
              refine hK _ _ ?_
              clear hK K
              refine wpAnyIn_ready (rs := [5]) (by kernel_rfl) (by simp) ?_
              refine AllReadyIn.cons rfl (fun K hK => ?_) ?_
              · refine appIn_step rfl (fun k => w.heap.size ≤ k) _ _ _ _ _ _ 3 32 rfl Try.underlying36 info_val rfl (by decide) _ _ _ rfl ((HROW.out.keeps HK2.out (Apart.no _)).alloc _) _ rfl 1 (flat [⟨kk, kn, kt⟩]) (lit1 _ ⟨kk, kn, kt⟩ rfl) (by omega) (by omega) ?_
                intro A5 c5 w5 hR5 hK5
                have HR5 := hidden hR5
                have HK5 := hidden hK5
                have bO5 : Boxed w5 w1.heap.size 36 (.slice A pre.length c) := HK5.out.heap (blk_alloc (HK2.out.heap bO1 (fun h => h)) _) (fun e => ((HROW.out.keeps HK2.out (Apart.no _)).ne (HK2.out.heap bO1 (fun h => h)) (by decide) _ e) rfl)
                have cO5 := bO5.cell
                have fO5 := bO5.frozen
                clear hR5 hK5
                refine hK _ _ ?_
                clear hK K
                refine wpAnyIn_ready (rs := [6]) (by kernel_rfl) (by simp) ?_
                refine AllReadyIn.cons rfl (fun K hK => ?_) ?_
                · go_simp
                  refine hK _ _ ?_
                  clear hK K
                  refine wpAnyIn_done (by kernel_rfl) ?_ _
                  gi_wp2
                  exact each_end HROW.out bO1 bF1 hB1 HK2.out HR5.out HK5.out (by decide) (by decide) (by omega) (came_snoc pre ⟨⟨⟨kk, kn, kt⟩, ⟨vk, vn, vt⟩, xs, xg⟩, hx⟩) rfl
                exact AllReadyIn.nil
              exact AllReadyIn.nil
            exact AllReadyIn.nil
          exact AllReadyIn.nil
        exact AllReadyIn.nil
      exact AllReadyIn.nil
    exact AllReadyIn.nil
  case done =>
    rintro D xs W hD hys ⟨⟨⟨A, c, bO1, hRow⟩, bF1⟩, hB1⟩ hK
    have cO := bO1.cell
    have HROW := hidden hRow
    have HLE := hidden (show xs.length = (stay t.E).length by have := congrArg List.length hys; rw [List.length_map] at this; exact this)
    have HC := hidden (show came xs = stay t.E from hys)
    clear hRow hys hlok
    go_wp2
    refine ⟨by simp, .inl ⟨_, _, rfl, run_takeDeferred hK, ?_⟩⟩
    have hgr := grownBy_putObj' W D (.deferred none)
    have hr7 := row_own HROW.out hgr (fun r e => by cases e; exact ⟨_, hK, rfl⟩)
    rw [HLE.out, HC.out] at hr7
    refine ⟨_, results_tmp rfl _ _ _, hR.out _ _ ⟨A, c, fun k => w.heap.size ≤ k, by rw [← HLE.out]; rfl, hr7, ?_, fun k h => .inr h⟩⟩
    exact ((Keeps.of_below (hB1.trans (belowK_b (w := w) (Nat.le_refl _) W D _ _ (by omega) hK rfl rfl))).mono (fun i h1 h2 => by omega))
  case stop =>
    rintro D c pre W _ _ h _
    exact h.elim
set_option maxHeartbeats 16000000 in
theorem each_vals (w : World) (F : Nat → Prop) (b : Nat) (L : List Ent) (s : Int) (h : IsT w F b L s) (hs : s < 1073741823) :
    Calls Try.prog 74 #[.pointer (some ⟨b, 0, none⟩), .func (.func 76) #[] #[]] w fun e w' => ∃ A c F', e = .returned (.slice A L.length c) ∧ Row w' F' 26 3 (.slice A L.length c) L.length (flat (L.map Ent.val)) ∧ Keeps (fun _ => False) w w' ∧ Fresh (fun _ => False) F' w := by
  have hlok := h.lok
  obtain ⟨t, hT, ho, rfl, rfl⟩ := h
  have hmany := ho.many
  have hmo := hlok.most
  have hlv := ho.liv
  obtain ⟨ve, vs, hTab⟩ := id hT
  have b2 := blk_cell hTab.blk 2
  simp only [List.getElem?_toArray, List.getElem?_cons_zero, List.getElem?_cons_succ] at b2
  rw [hlv] at b2
  have hbz := blk_lt hTab.blk
  have HG := hidden val_of_ent
  clear hTab hlv
  refine post_gen fun R hR => ?_
  refine (callsIn_wide (n := 3)).1 ?_
  refine callsIn_of_wp_marks Try.func74 rfl trivial ?_ rfl
  simp only [Try.ntmps74, List.size_toArray, List.length_cons, List.length_nil, Nat.reduceAdd, Nat.reduceSub, Array.replicate_succ, Array.replicate_zero, List.push_toArray, List.append_toArray, List.nil_append, List.cons_append]
  refine wpIn_wide.2 ?_
  have hb1 : b < w.heap.size + 1 := by omega
  go_wp2_with (first | (at_make; refine mk0_list _ rfl _ _ _ rfl _ _ 3 32 Try.underlying36 info_val _ _ _ (stay t.E).length rfl rfl rfl (by omega) (by omega) ?_; intro w1 hR1 hK1; have HR1 := hidden hR1; have HK1 := hidden hK1; clear hR1 hK1) | (go_at_call 71; refine (callsIn_wide.1 (all_in 3 b _)).mono ?_; rintro e w2 ⟨rfl, rfl⟩))
  have bF0 := Boxed.new w 126 (.func (.func 76) #[] #[])
  have bF1 : Boxed w1 w.heap.size 126 (.func (.func 76) #[] #[]) := HK1.out.heap bF0 (fun h => h)
  have bO := Boxed.new w1 36 (.slice (some ⟨w.heap.size + 1, 0, none⟩) 0 (stay t.E).length)
  have bN := Boxed.new (w1.alloc (.cells #[.slice (some ⟨w.heap.size + 1, 0, none⟩) 0 (stay t.E).length] 36)) 38 (.pointer (some ⟨b, 0, none⟩))
  have hw1 := HK1.out.size
  simp only [World.size_alloc] at bN hw1
  have hK0 : Keeps (fun _ => False) w ((w1.alloc (.cells #[.slice (some ⟨w.heap.size + 1, 0, none⟩) 0 (stay t.E).length] 36)).alloc (.cells #[.pointer (some ⟨b, 0, none⟩)] 38)) := ((((Keeps.refl _ w).alloc _).trans HK1.out (fun _ _ h => h)).alloc _).alloc _
  have bO2 := bO.alloc (.cells #[.pointer (some ⟨b, 0, none⟩)] 38)
  have bF2 := (bF1.alloc (.cells #[.slice (some ⟨w.heap.size + 1, 0, none⟩) 0 (stay t.E).length] 36)).alloc (.cells #[.pointer (some ⟨b, 0, none⟩)] 38)
  have hR2 := ((HR1.out.mono (G := fun k => w.heap.size ≤ k) (fun k _ h => by simp at h; omega)).alloc (.cells #[.slice (some ⟨w.heap.size + 1, 0, none⟩) 0 (stay t.E).length] 36)).alloc (.cells #[.pointer (some ⟨b, 0, none⟩)] 38)
  simp only [World.size_alloc] at hR2
  have hsz : ((w1.alloc (.cells #[.slice (some ⟨w.heap.size + 1, 0, none⟩) 0 (stay t.E).length] 36)).alloc (.cells #[.pointer (some ⟨b, 0, none⟩)] 38)).heap.size = w1.heap.size + 2 := by simp
  obtain ⟨W0, hW0⟩ : ∃ W0, (w1.alloc (.cells #[.slice (some ⟨w.heap.size + 1, 0, none⟩) 0 (stay t.E).length] 36)).alloc (.cells #[.pointer (some ⟨b, 0, none⟩)] 38) = W0 := ⟨_, rfl⟩
  rw [hW0] at bN bO2 bF2 hK0 hsz hR2 ⊢
  clear hW0 bO bF0 bF1 HR1
  have hB0 : Below w.heap.size w W0 := hK0.below (Nat.le_refl _) (fun _ h => h.elim)
  refine (wpIn_wide (n := 3)).1 ?_
  refine wpIn_rangeFunc_ownH (F := Fence.wide) rfl (by omega) (gf := 82) (lb := #[.pointer (some ⟨w1.heap.size + 1, 0, none⟩)]) rfl trivial (enters_of Try.func82 (by kernel_rfl) rfl)
    (all_stops (3 - 1) (w1.heap.size + 1) w.heap.size b (by omega) F t W0 (by omega) bN.cell (hT.none hK0) (fun k hk => hT.inw k hk) (by omega) (by omega)) belowK_t (belowK_b (by omega)) (Below.refl _ _) (fun _ => rfl)
    (fun pre W => ((∃ A c, Boxed W w1.heap.size 36 (.slice A pre.length c) ∧ Row W (fun k => w.heap.size ≤ k) 26 3 (.slice A pre.length c) pre.length (flat ((came pre).map Ent.val))) ∧ Boxed W w.heap.size 126 (.func (.func 76) #[] #[])) ∧ Below w.heap.size w W)
    (fun _ _ _ => False)
    (OwnFrom.and (OwnFrom.and (fun pre X Y row ⟨A, c, h1, h2⟩ hg hr => ⟨A, c, boxed_own (β := Unit) _ _ (fun _ => _) () X Y row h1 hg (fun r e => (hr r e).2), row_own h2 hg (fun r e => (hr r e).2)⟩) (Own.from (boxed_own _ _ _) _)) (ownFrom_below (Nat.le_refl _) (by omega)))
    (fun _ _ _ _ _ hs _ _ => hs)
    ⟨⟨⟨_, _, bO2, hR2⟩, bF2⟩, hB0⟩
    (fun x a' W => ∃ Bx, W.heap[Bx]? = some x.1.obj ∧ a' = { tmps := #[.pointer (some ⟨b, 0, none⟩), .func (.func 76) #[] #[], undef, .pointer (some ⟨w.heap.size, 0, none⟩), .slice none 0 0, .pointer (some ⟨w1.heap.size, 0, none⟩), .pointer (some ⟨Bx, 0, none⟩), .pointer (some ⟨b, 0, none⟩), .pointer (some ⟨b, 0, none⟩), .pointer (some ⟨b, 2, none⟩), .int .i64 (stay t.E).length, .slice (some ⟨w.heap.size + 1, 0, none⟩) 0 (stay t.E).length, .pointer (some ⟨b, 0, none⟩), .func (.func 82) #[] #[.pointer (some ⟨w1.heap.size + 1, 0, none⟩)], x.1.agg, undef, undef, undef, undef, undef, undef, undef], defers := [] })
    (fun x a' _ X Y row hs hg hr => by obtain ⟨Bx, h1, h2⟩ := hs; exact ⟨Bx, own_blk (β := Unit) _ Bx _ _ _ () X Y row h1 hg hr, h2⟩)
    ?assign ?body ?done ?stop
  case assign =>
    rintro l pre x W K ⟨⟨⟨A, c, bO1, hRow⟩, bF1⟩, hB1⟩ hK
    obtain ⟨⟨⟨kk, kn, kt⟩, ⟨vk, vn, vt⟩, xs, xg⟩, hx⟩ := x
    simp only [Ent.agg, Ent.obj] at hK ⊢
    gi_wp2
    exact hK _ _ ((KeepsOthers.alloc _ _).from _) ((Below.refl _ W).alloc hB1.size _) ⟨⟨⟨A, c, bO1.alloc _, hRow.alloc _⟩, bF1.alloc _⟩, hB1.alloc hB1.size _⟩ ⟨W.heap.size, blk_new W _, rfl⟩
  case body =>
    rintro l pre x a' W hl hr ⟨⟨⟨A, c, bO1, hRow⟩, bF1⟩, hB1⟩ ⟨Bx, bX, rfl⟩ hlt
    have HROW := hidden hRow
    have HP := hidden (fun W => HG.out W x.1)
    have cF := bF1.cell
    have cO := bO1.cell
    have fO := bO1.frozen
    obtain ⟨⟨⟨kk, kn, kt⟩, ⟨vk, vn, vt⟩, xs, xg⟩, hx⟩ := x
    simp only [Ent.agg, Ent.obj, V.val] at bX HP ⊢
    have e0 := blk_cell bX 0
    have e1 := blk_cell bX 1
    have e2 := blk_cell bX 2
    have e3 := blk_cell bX 3
    have e4 := blk_cell bX 4
    have e5 := blk_cell bX 5
    have e6 := blk_cell bX 6
    have e7 := blk_cell bX 7
    simp only [List.getElem?_toArray, List.getElem?_cons_zero, List.getElem?_cons_succ] at e0 e1 e2 e3 e4 e5 e6 e7
    have hbx := blk_lt bX
    have hd : 1 ≤ 3 - 1 - 1 := by omega
    have hmx : Try.prog.follows .mixedOrders = true := by kernel_rfl
    clear hRow hlok bX
    gi_wp2
    refine wpIn_region_any (by assumption) ?_
    try (change wpAnyIn _ _ _ _ _ _ _ _ _ (World.drew _))
    refine wpAnyIn_ready (rs := [0, 1, 2]) (by kernel_rfl) (by simp) ?_
    refine AllReadyIn.cons rfl (fun K hK => ?_) ?_
    · go_simp
      refine hK _ _ ?_
      clear hK K
      refine wpAnyIn_ready (rs := [1, 2]) (by kernel_rfl) (by simp) ?_
      refine AllReadyIn.cons rfl (fun K hK => ?_) ?_
      · go_simp
        refine hK _ _ ?_
        clear hK K
        refine wpAnyIn_ready (rs := [2]) (by kernel_rfl) (by simp) ?_
        refine AllReadyIn.cons rfl (fun K hK => ?_) ?_
        · go_simp
          refine hK _ _ ?_
          clear hK K
          refine wpAnyIn_ready (rs := [3]) (by kernel_rfl) (by simp) ?_
          refine AllReadyIn.cons rfl (fun K hK => ?_) ?_
          · go_simp
            gi_wp2_with (refine ⟨trivial, ?_⟩; gi_at_call 76; refine (CallsIn.inRound l (callsIn_wide.2 (HP.out _))).mono ?_; rintro e W2 ⟨rfl, hK2⟩; have HK2 := hidden (Keeps.undr5 hK2); have cO2 := HK2.out.cell cO (fun h => h); have fO2 := (frozen_boxed (HK2.out.heap bO1 (fun h => h))); have cF2 := HK2.out.cell cF (fun h => h); have hl2 := blk_lt (HK2.out.heap bO1 (fun h => h)); clear hK2)
            refine wpAnyIn_ready (rs := [4]) (by kernel_rfl) (by simp) ?_
            refine AllReadyIn.cons rfl (fun K hK => ?_) ?_
            · go_simp
              refine hK _ _ ?_
              clear hK K
              refine wpAnyIn_ready (rs := [5]) (by kernel_rfl) (by simp) ?_
              refine AllReadyIn.cons rfl (fun K hK => ?_) ?_
              · refine appIn_step rfl (fun k => w.heap.size ≤ k) _ _ _ _ _ _ 3 32 rfl Try.underlying36 info_val rfl (by decide) _ _ _ rfl ((HROW.out.keeps HK2.out (Apart.no _)).alloc _) _ rfl 1 (flat [⟨vk, vn, vt⟩]) (lit1 _ ⟨vk, vn, vt⟩ rfl) (by omega) (by omega) ?_
                intro A5 c5 w5 hR5 hK5
                have HR5 := hidden hR5
                have HK5 := hidden hK5
                have bO5 : Boxed w5 w1.heap.size 36 (.slice A pre.length c) := HK5.out.heap (blk_alloc (HK2.out.heap bO1 (fun h => h)) _) (fun e => ((HROW.out.keeps HK2.out (Apart.no _)).ne (HK2.out.heap bO1 (fun h => h)) (by decide) _ e) rfl)
                have cO5 := bO5.cell
                have fO5 := bO5.frozen
                clear hR5 hK5
                refine hK _ _ ?_
                clear hK K
                refine wpAnyIn_ready (rs := [6]) (by kernel_rfl) (by simp) ?_
                refine AllReadyIn.cons rfl (fun K hK => ?_) ?_
                · go_simp
                  refine hK _ _ ?_
                  clear hK K
                  refine wpAnyIn_done (by kernel_rfl) ?_ _
                  gi_wp2
                  exact each_end HROW.out bO1 bF1 hB1 HK2.out HR5.out HK5.out (by decide) (by decide) (by omega) (came_snoc pre ⟨⟨⟨kk, kn, kt⟩, ⟨vk, vn, vt⟩, xs, xg⟩, hx⟩) rfl
                exact AllReadyIn.nil
              exact AllReadyIn.nil
            exact AllReadyIn.nil
          exact AllReadyIn.nil
        exact AllReadyIn.nil
      refine AllReadyIn.cons rfl (fun K hK => ?_) ?_
      · go_simp
        refine hK _ _ ?_
        clear hK K
        refine wpAnyIn_ready (rs := [1]) (by kernel_rfl) (by simp) ?_
        refine AllReadyIn.cons rfl (fun K hK => ?_) ?_
        · go_simp
          refine hK _ _ ?_
          clear hK K
          refine wpAnyIn_ready (rs := [3]) (by kernel_rfl) (by simp) ?_
          refine AllReadyIn.cons rfl (fun K hK => ?_) ?_
          · go_simp
            gi_wp2_with (refine ⟨trivial, ?_⟩; gi_at_call 76; refine (CallsIn.inRound l (callsIn_wide.2 (HP.out _))).mono ?_; rintro e W2 ⟨rfl, hK2⟩; have HK2 := hidden (Keeps.undr5 hK2); have cO2 := HK2.out.cell cO (fun h => h); have fO2 := (frozen_boxed (HK2.out.heap bO1 (fun h => h))); have cF2 := HK2.out.cell cF (fun h => h); have hl2 := blk_lt (HK2.out.heap bO1 (fun h => h)); clear hK2)
            refine wpAnyIn_ready (rs := [4]) (by kernel_rfl) (by simp) ?_
            refine AllReadyIn.cons rfl (fun K hK => ?_) ?_
            · go_simp
              refine hK _ _ ?_
              clear hK K
              refine wpAnyIn_ready (rs := [5]) (by kernel_rfl) (by simp) ?_
              refine AllReadyIn.cons rfl (fun K hK => ?_) ?_
              · refine appIn_step rfl (fun k => w.heap.size ≤ k) _ _ _ _ _ _ 3 32 rfl Try.underlying36 info_val rfl (by decide) _ _ _ rfl ((HROW.out.keeps HK2.out (Apart.no _)).alloc _) _ rfl 1 (flat [⟨vk, vn, vt⟩]) (lit1 _ ⟨vk, vn, vt⟩ rfl) (by omega) (by omega) ?_
                intro A5 c5 w5 hR5 hK5
                have HR5 := hidden hR5
                have HK5 := hidden hK5
                have bO5 : Boxed w5 w1.heap.size 36 (.slice A pre.length c) := HK5.out.heap (blk_alloc (HK2.out.heap bO1 (fun h => h)) _) (fun e => ((HROW.out.keeps HK2.out (Apart.no _)).ne (HK2.out.heap bO1 (fun h => h)) (by decide) _ e) rfl)
                have cO5 := bO5.cell
                have fO5 := bO5.frozen
                clear hR5 hK5
                refine hK _ _ ?_
                clear hK K
                refine wpAnyIn_ready (rs := [6]) (by kernel_rfl) (by simp) ?_
                refine AllReadyIn.cons rfl (fun K hK => ?_) ?_
                · go_simp
                  refine hK _ _ ?_
                  clear hK K
                  refine wpAnyIn_done (by kernel_rfl) ?_ _
                  gi_wp2
                  exact each_end HROW.out bO1 bF1 hB1 HK2.out HR5.out HK5.out (by decide) (by decide) (by omega) (came_snoc pre ⟨⟨⟨kk, kn, kt⟩, ⟨vk, vn, vt⟩, xs, xg⟩, hx⟩) rfl
                exact AllReadyIn.nil
              exact AllReadyIn.nil
            exact AllReadyIn.nil
          exact AllReadyIn.nil
        exact AllReadyIn.nil
      exact AllReadyIn.nil
    refine AllReadyIn.cons rfl (fun K hK => ?_) ?_
    · go_simp
      refine hK _ _ ?_
      clear hK K
      refine wpAnyIn_ready (rs := [0, 2]) (by kernel_rfl) (by simp) ?_
      refine AllReadyIn.cons rfl (fun K hK => ?_) ?_
      · go_simp
        refine hK _ _ ?_
        clear hK K
        refine wpAnyIn_ready (rs := [2]) (by kernel_rfl) (by simp) ?_
        refine AllReadyIn.cons rfl (fun K hK => ?_) ?_
        · go_simp
          refine hK _ _ ?_
          clear hK K
          refine wpAnyIn_ready (rs := [3]) (by kernel_rfl) (by simp) ?_
          refine AllReadyIn.cons rfl (fun K hK => ?_) ?_
          · go_simp
            gi_wp2_with (refine ⟨trivial, ?_⟩; gi_at_call 76; refine (CallsIn.inRound l (callsIn_wide.2 (HP.out _))).mono ?_; rintro e W2 ⟨rfl, hK2⟩; have HK2 := hidden (Keeps.undr5 hK2); have cO2 := HK2.out.cell cO (fun h => h); have fO2 := (frozen_boxed (HK2.out.heap bO1 (fun h => h))); have cF2 := HK2.out.cell cF (fun h => h); have hl2 := blk_lt (HK2.out.heap bO1 (fun h => h)); clear hK2)
            refine wpAnyIn_ready (rs := [4]) (by kernel_rfl) (by simp) ?_
            refine AllReadyIn.cons rfl (fun K hK => ?_) ?_
            · go_simp
              refine hK _ _ ?_
              clear hK K
              refine wpAnyIn_ready (rs := [5]) (by kernel_rfl) (by simp) ?_
              refine AllReadyIn.cons rfl (fun K hK => ?_) ?_
              · refine appIn_step rfl (fun k => w.heap.size ≤ k) _ _ _ _ _ _ 3 32 rfl Try.underlying36 info_val rfl (by decide) _ _ _ rfl ((HROW.out.keeps HK2.out (Apart.no _)).alloc _) _ rfl 1 (flat [⟨vk, vn, vt⟩]) (lit1 _ ⟨vk, vn, vt⟩ rfl) (by omega) (by omega) ?_
                intro A5 c5 w5 hR5 hK5
                have HR5 := hidden hR5
                have HK5 := hidden hK5
                have bO5 : Boxed w5 w1.heap.size 36 (.slice A pre.length c) := HK5.out.heap (blk_alloc (HK2.out.heap bO1 (fun h => h)) _) (fun e => ((HROW.out.keeps HK2.out (Apart.no _)).ne (HK2.out.heap bO1 (fun h => h)) (by decide) _ e) rfl)
                have cO5 := bO5.cell
                have fO5 := bO5.frozen
                clear hR5 hK5
                refine hK _ _ ?_
                clear hK K
                refine wpAnyIn_ready (rs := [6]) (by kernel_rfl) (by simp) ?_
                refine AllReadyIn.cons rfl (fun K hK => ?_) ?_
                · go_simp
                  refine hK _ _ ?_
                  clear hK K
                  refine wpAnyIn_done (by kernel_rfl) ?_ _
                  gi_wp2
                  exact each_end HROW.out bO1 bF1 hB1 HK2.out HR5.out HK5.out (by decide) (by decide) (by omega) (came_snoc pre ⟨⟨⟨kk, kn, kt⟩, ⟨vk, vn, vt⟩, xs, xg⟩, hx⟩) rfl
                exact AllReadyIn.nil
              exact AllReadyIn.nil
            exact AllReadyIn.nil
          exact AllReadyIn.nil
        exact AllReadyIn.nil
      refine AllReadyIn.cons rfl (fun K hK => ?_) ?_
      · go_simp
        refine hK _ _ ?_
        clear hK K
        refine wpAnyIn_ready (rs := [0, 3]) (by kernel_rfl) (by simp) ?_
        refine AllReadyIn.cons rfl (fun K hK => ?_) ?_
        · go_simp
          refine hK _ _ ?_
          clear hK K
          refine wpAnyIn_ready (rs := [3]) (by kernel_rfl) (by simp) ?_
          refine AllReadyIn.cons rfl (fun K hK => ?_) ?_
          · go_simp
            gi_wp2_with (refine ⟨trivial, ?_⟩; gi_at_call 76; refine (CallsIn.inRound l (callsIn_wide.2 (HP.out _))).mono ?_; rintro e W2 ⟨rfl, hK2⟩; have HK2 := hidden (Keeps.undr5 hK2); have cO2 := HK2.out.cell cO (fun h => h); have fO2 := (frozen_boxed (HK2.out.heap bO1 (fun h => h))); have cF2 := HK2.out.cell cF (fun h => h); have hl2 := blk_lt (HK2.out.heap bO1 (fun h => h)); clear hK2)
            refine wpAnyIn_ready (rs := [4]) (by kernel_rfl) (by simp) ?_
            refine AllReadyIn.cons rfl (fun K hK => ?_) ?_
            · go_simp
              refine hK _ _ ?_
              clear hK K
              refine wpAnyIn_ready (rs := [5]) (by kernel_rfl) (by simp) ?_
              refine AllReadyIn.cons rfl (fun K hK => ?_) ?_
              · refine appIn_step rfl (fun k => w.heap.size ≤ k) _ _ _ _ _ _ 3 32 rfl Try.underlying36 info_val rfl (by decide) _ _ _ rfl ((HROW.out.keeps HK2.out (Apart.no _)).alloc _) _ rfl 1 (flat [⟨vk, vn, vt⟩]) (lit1 _ ⟨vk, vn, vt⟩ rfl) (by omega) (by omega) ?_
                intro A5 c5 w5 hR5 hK5
                have HR5 := hidden hR5
                have HK5 := hidden hK5
                have bO5 : Boxed w5 w1.heap.size 36 (.slice A pre.length c) := HK5.out.heap (blk_alloc (HK2.out.heap bO1 (fun h => h)) _) (fun e => ((HROW.out.keeps HK2.out (Apart.no _)).ne (HK2.out.heap bO1 (fun h => h)) (by decide) _ e) rfl)
                have cO5 := bO5.cell
                have fO5 := bO5.frozen
                clear hR5 hK5
                refine hK _ _ ?_
                clear hK K
                refine wpAnyIn_ready (rs := [6]) (by kernel_rfl) (by simp) ?_
                refine AllReadyIn.cons rfl (fun K hK => ?_) ?_
                · go_simp
                  refine hK _ _ ?_
                  clear hK K
                  refine wpAnyIn_done (by kernel_rfl) ?_ _
                  gi_wp2
                  exact each_end HROW.out bO1 bF1 hB1 HK2.out HR5.out HK5.out (by decide) (by decide) (by omega) (came_snoc pre ⟨⟨⟨kk, kn, kt⟩, ⟨vk, vn, vt⟩, xs, xg⟩, hx⟩) rfl
                exact AllReadyIn.nil
              exact AllReadyIn.nil
            exact AllReadyIn.nil
          exact AllReadyIn.nil
        refine AllReadyIn.cons rfl (fun K hK => ?_) ?_
        · go_simp
          gi_wp2_with (refine ⟨trivial, ?_⟩; gi_at_call 76; refine (CallsIn.inRound l (callsIn_wide.2 (HP.out _))).mono ?_; rintro e W2 ⟨rfl, hK2⟩; have HK2 := hidden (Keeps.undr5 hK2); have cO2 := HK2.out.cell cO (fun h => h); have fO2 := (frozen_boxed (HK2.out.heap bO1 (fun h => h))); have cF2 := HK2.out.cell cF (fun h => h); have hl2 := blk_lt (HK2.out.heap bO1 (fun h => h)); clear hK2)
          refine wpAnyIn_ready (rs := [0, 4]) (by kernel_rfl) (by simp) ?_
          refine AllReadyIn.cons rfl (fun K hK => ?_) ?_
          · go_simp
            refine hK _ _ ?_
            clear hK K
            refine wpAnyIn_ready (rs := [4]) (by kernel_rfl) (by simp) ?_
            refine AllReadyIn.cons rfl (fun K hK => ?_) ?_
            · go_simp
              refine hK _ _ ?_
              clear hK K
              refine wpAnyIn_ready (rs := [5]) (by kernel_rfl) (by simp) ?_
              refine AllReadyIn.cons rfl (fun K hK => ?_) ?_
              · refine appIn_step rfl (fun k => w.heap.size ≤ k) _ _ _ _ _ _ 3 32 rfl Try.underlying36 info_val rfl (by decide) _ _ _ rfl ((HROW.out.keeps HK2.out (Apart.no _)).alloc _) _ rfl 1 (flat [⟨vk, vn, vt⟩]) (lit1 _ ⟨vk, vn, vt⟩ rfl) (by omega) (by omega) ?_
                intro A5 c5 w5 hR5 hK5
                have HR5 := hidden hR5
                have HK5 := hidden hK5
                have bO5 : Boxed w5 w1.heap.size 36 (.slice A pre.length c) := HK5.out.heap (blk_alloc (HK2.out.heap bO1 (fun h => h)) _) (fun e => ((HROW.out.keeps HK2.out (Apart.no _)).ne (HK2.out.heap bO1 (fun h => h)) (by decide) _ e) rfl)
                have cO5 := bO5.cell
                have fO5 := bO5.frozen
                clear hR5 hK5
                refine hK _ _ ?_
                clear hK K
                refine wpAnyIn_ready (rs := [6]) (by kernel_rfl) (by simp) ?_
                refine AllReadyIn.cons rfl (fun K hK => ?_) ?_
                · go_simp
                  refine hK _ _ ?_
                  clear hK K
                  refine wpAnyIn_done (by kernel_rfl) ?_ _
                  gi_wp2
                  exact each_end HROW.out bO1 bF1 hB1 HK2.out HR5.out HK5.out (by decide) (by decide) (by omega) (came_snoc pre ⟨⟨⟨kk, kn, kt⟩, ⟨vk, vn, vt⟩, xs, xg⟩, hx⟩) rfl
                exact AllReadyIn.nil
              exact AllReadyIn.nil
            exact AllReadyIn.nil
          refine AllReadyIn.cons rfl (fun K hK => ?_) ?_
          · go_simp
            refine hK _ _ ?_
            clear hK K
            refine wpAnyIn_ready (rs := [0]) (by kernel_rfl) (by simp) ?_
            refine AllReadyIn.cons rfl (fun K hK => ?_) ?_
            · go_simp
              refine hK _ _ ?_
              clear hK K
              refine wpAnyIn_ready (rs := [5]) (by kernel_rfl) (by simp) ?_
              refine AllReadyIn.cons rfl (fun K hK => ?_) ?_
              · refine appIn_step rfl (fun k => w.heap.size ≤ k) _ _ _ _ _ _ 3 32 rfl Try.underlying36 info_val rfl (by decide) _ _ _ rfl ((HROW.out.keeps HK2.out (Apart.no _)).alloc _) _ rfl 1 (flat [⟨vk, vn, vt⟩]) (lit1 _ ⟨vk, vn, vt⟩ rfl) (by omega) (by omega) ?_
                intro A5 c5 w5 hR5 hK5
                have HR5 := hidden hR5
                have HK5 := hidden hK5
                have bO5 : Boxed w5 w1.heap.size 36 (.slice A pre.length c) := HK5.out.heap (blk_alloc (HK2.out.heap bO1 (fun h => h)) _) (fun e => ((HROW.out.keeps HK2.out (Apart.no _)).ne (HK2.out.heap bO1 (fun h => h)) (by decide) _ e) rfl)
                have cO5 := bO5.cell
                have fO5 := bO5.frozen
                clear hR5 hK5
                refine hK _ _ ?_
                clear hK K
                refine wpAnyIn_ready (rs := [6]) (by kernel_rfl) (by simp) ?_
                refine AllReadyIn.cons rfl (fun K hK => ?_) ?_
                · go_simp
                  refine hK _ _ ?_
                  clear hK K
                  refine wpAnyIn_done (by kernel_rfl) ?_ _
                  gi_wp2
                  exact each_end HROW.out bO1 bF1 hB1 HK2.out HR5.out HK5.out (by decide) (by decide) (by omega) (came_snoc pre ⟨⟨⟨kk, kn, kt⟩, ⟨vk, vn, vt⟩, xs, xg⟩, hx⟩) rfl
                exact AllReadyIn.nil
              exact AllReadyIn.nil
            exact AllReadyIn.nil
          exact AllReadyIn.nil
        exact AllReadyIn.nil
      exact AllReadyIn.nil
    refine AllReadyIn.cons rfl (fun K hK => ?_) ?_
    · go_simp
      refine hK _ _ ?_
      clear hK K
      refine wpAnyIn_ready (rs := [0, 1]) (by kernel_rfl) (by simp) ?_
      refine AllReadyIn.cons rfl (fun K hK => ?_) ?_
      · go_simp
        refine hK _ _ ?_
        clear hK K
        refine wpAnyIn_ready (rs := [1]) (by kernel_rfl) (by simp) ?_
        refine AllReadyIn.cons rfl (fun K hK => ?_) ?_
        · go_simp
          refine hK _ _ ?_
          clear hK K
          refine wpAnyIn_ready (rs := [3]) (by kernel_rfl) (by simp) ?_
          refine AllReadyIn.cons rfl (fun K hK => ?_) ?_
          · go_simp
            gi_wp2_with (refine ⟨trivial, ?_⟩; gi_at_call 76; refine (CallsIn.inRound l (callsIn_wide.2 (HP.out _))).mono ?_; rintro e W2 ⟨rfl, hK2⟩; have HK2 := hidden (Keeps.undr5 hK2); have cO2 := HK2.out.cell cO (fun h => h); have fO2 := (frozen_boxed (HK2.out.heap bO1 (fun h => h))); have cF2 := HK2.out.cell cF (fun h => h); have hl2 := blk_lt (HK2.out.heap bO1 (fun h => h)); clear hK2)
            refine wpAnyIn_ready (rs := [4]) (by kernel_rfl) (by simp) ?_
            refine AllReadyIn.cons rfl (fun K hK => ?_) ?_
            · go_simp
              refine hK _ _ ?_
              clear hK K
              refine wpAnyIn_ready (rs := [5]) (by kernel_rfl) (by simp) ?_
              refine AllReadyIn.cons rfl (fun K hK => ?_) ?_
              · refine appIn_step rfl (fun k => w.heap.size ≤ k) _ _ _ _ _ _ 3 32 rfl Try.underlying36 info_val rfl (by decide) _ _ _ rfl ((HROW.out.keeps HK2.out (Apart.no _)).alloc _) _ rfl 1 (flat [⟨vk, vn, vt⟩]) (lit1 _ ⟨vk, vn, vt⟩ rfl) (by omega) (by omega) ?_
                intro A5 c5 w5 hR5 hK5
                have HR5 := hidden hR5
                have HK5 := hidden hK5
                have bO5 : Boxed w5 w1.heap.size 36 (.slice A pre.length c) := HK5.out.heap (blk_alloc (HK2.out.heap bO1 (fun h => h)) _) (fun e => ((HROW.out.keeps HK2.out (Apart.no _)).ne (HK2.out.heap bO1 (fun h => h)) (by decide) _ e) rfl)
                have cO5 := bO5.cell
                have fO5 := bO5.frozen
                clear hR5 hK5
                refine hK _ _ ?_
                clear hK K
                refine wpAnyIn_ready (rs := [6]) (by kernel_rfl) (by simp) ?_
                refine AllReadyIn.cons rfl (fun K hK => ?_) ?_
                · go_simp
                  refine hK _ _ ?_
                  clear hK K
                  refine wpAnyIn_done (by kernel_rfl) ?_ _
                  gi_wp2
                  exact each_end HROW.out bO1 bF1 hB1 HK2.out HR5.out HK5.out (by decide) (by decide) (by omega) (came_snoc pre ⟨⟨⟨kk, kn, kt⟩, ⟨vk, vn, vt⟩, xs, xg⟩, hx⟩) rfl
                exact AllReadyIn.nil
              exact AllReadyIn.nil
            exact AllReadyIn.nil
          exact AllReadyIn.nil
        exact AllReadyIn.nil
      refine AllReadyIn.cons rfl (fun K hK => ?_) ?_
      · go_simp
        refine hK _ _ ?_
        clear hK K
        refine wpAnyIn_ready (rs := [0, 3]) (by kernel_rfl) (by simp) ?_
        refine AllReadyIn.cons rfl (fun K hK => ?_) ?_
        · go_simp
          refine hK _ _ ?_
          clear hK K
          refine wpAnyIn_ready (rs := [3]) (by kernel_rfl) (by simp) ?_
          refine AllReadyIn.cons rfl (fun K hK => ?_) ?_
          · go_simp
            gi_wp2_with (refine ⟨trivial, ?_⟩; gi_at_call 76; refine (CallsIn.inRound l (callsIn_wide.2 (HP.out _))).mono ?_; rintro e W2 ⟨rfl, hK2⟩; have HK2 := hidden (Keeps.undr5 hK2); have cO2 := HK2.out.cell cO (fun h => h); have fO2 := (frozen_boxed (HK2.out.heap bO1 (fun h => h))); have cF2 := HK2.out.cell cF (fun h => h); have hl2 := blk_lt (HK2.out.heap bO1 (fun h => h)); clear hK2)
            refine wpAnyIn_ready (rs := [4]) (by kernel_rfl) (by simp) ?_
            refine AllReadyIn.cons rfl (fun K hK => ?_) ?_
            · go_simp
              refine hK _ _ ?_
              clear hK K
              refine wpAnyIn_ready (rs := [5]) (by kernel_rfl) (by simp) ?_
              refine AllReadyIn.cons rfl (fun K hK => ?_) ?_
              · refine appIn_step rfl (fun k => w.heap.size ≤ k) _ _ _ _ _ _ 3 32 rfl Try.underlying36 info_val rfl (by decide) _ _ _ rfl ((HROW.out.keeps HK2.out (Apart.no _)).alloc _) _ rfl 1 (flat [⟨vk, vn, vt⟩]) (lit1 _ ⟨vk, vn, vt⟩ rfl) (by omega) (by omega) ?_
                intro A5 c5 w5 hR5 hK5
                have HR5 := hidden hR5
                have HK5 := hidden hK5
                have bO5 : Boxed w5 w1.heap.size 36 (.slice A pre.length c) := HK5.out.heap (blk_alloc (HK2.out.heap bO1 (fun h => h)) _) (fun e => ((HROW.out.keeps HK2.out (Apart.no _)).ne (HK2.out.heap bO1 (fun h => h)) (by decide) _ e) rfl)
                have cO5 := bO5.cell
                have fO5 := bO5.frozen
                clear hR5 hK5
                refine hK _ _ ?_
                clear hK K
                refine wpAnyIn_ready (rs := [6]) (by kernel_rfl) (by simp) ?_
                refine AllReadyIn.cons rfl (fun K hK => ?_) ?_
                · go_simp
                  refine hK _ _ ?_
                  clear hK K
                  refine wpAnyIn_done (by kernel_rfl) ?_ _
                  gi_wp2
                  exact each_end HROW.out bO1 bF1 hB1 HK2.out HR5.out HK5.out (by decide) (by decide) (by omega) (came_snoc pre ⟨⟨⟨kk, kn, kt⟩, ⟨vk, vn, vt⟩, xs, xg⟩, hx⟩) rfl
                exact AllReadyIn.nil
              exact AllReadyIn.nil
            exact AllReadyIn.nil
          exact AllReadyIn.nil
        refine AllReadyIn.cons rfl (fun K hK => ?_) ?_
        · go_simp
          gi_wp2_with (refine ⟨trivial, ?_⟩; gi_at_call 76; refine (CallsIn.inRound l (callsIn_wide.2 (HP.out _))).mono ?_; rintro e W2 ⟨rfl, hK2⟩; have HK2 := hidden (Keeps.undr5 hK2); have cO2 := HK2.out.cell cO (fun h => h); have fO2 := (frozen_boxed (HK2.out.heap bO1 (fun h => h))); have cF2 := HK2.out.cell cF (fun h => h); have hl2 := blk_lt (HK2.out.heap bO1 (fun h => h)); clear hK2)
          refine wpAnyIn_ready (rs := [0, 4]) (by kernel_rfl) (by simp) ?_
          refine AllReadyIn.cons rfl (fun K hK => ?_) ?_
          · go_simp
            refine hK _ _ ?_
            clear hK K
            refine wpAnyIn_ready (rs := [4]) (by kernel_rfl) (by simp) ?_
            refine AllReadyIn.cons rfl (fun K hK => ?_) ?_
            · go_simp
              refine hK _ _ ?_
              clear hK K
              refine wpAnyIn_ready (rs := [5]) (by kernel_rfl) (by simp) ?_
              refine AllReadyIn.cons rfl (fun K hK => ?_) ?_
              · refine appIn_step rfl (fun k => w.heap.size ≤ k) _ _ _ _ _ _ 3 32 rfl Try.underlying36 info_val rfl (by decide) _ _ _ rfl ((HROW.out.keeps HK2.out (Apart.no _)).alloc _) _ rfl 1 (flat [⟨vk, vn, vt⟩]) (lit1 _ ⟨vk, vn, vt⟩ rfl) (by omega) (by omega) ?_
                intro A5 c5 w5 hR5 hK5
                have HR5 := hidden hR5
                have HK5 := hidden hK5
                have bO5 : Boxed w5 w1.heap.size 36 (.slice A pre.length c) := HK5.out.heap (blk_alloc (HK2.out.heap bO1 (fun h => h)) _) (fun e => ((HROW.out.keeps HK2.out (Apart.no _)).ne (HK2.out.heap bO1 (fun h => h)) (by decide) _ e) rfl)
                have cO5 := bO5.cell
                have fO5 := bO5.frozen
                clear hR5 hK5
                refine hK _ _ ?_
                clear hK K
                refine wpAnyIn_ready (rs := [6]) (by kernel_rfl) (by simp) ?_
                refine AllReadyIn.cons rfl (fun K hK => ?_) ?_
                · go_simp
                  refine hK _ _ ?_
                  clear hK K
                  refine wpAnyIn_done (by kernel_rfl) ?_ _
                  gi_wp2
                  exact each_end HROW.out bO1 bF1 hB1 HK2.out HR5.out HK5.out (by decide) (by decide) (by omega) (came_snoc pre ⟨⟨⟨kk, kn, kt⟩, ⟨vk, vn, vt⟩, xs, xg⟩, hx⟩) rfl
                exact AllReadyIn.nil
              exact AllReadyIn.nil
            exact AllReadyIn.nil
          refine AllReadyIn.cons rfl (fun K hK => ?_) ?_
          · go_simp
            refine hK _ _ ?_
            clear hK K
            refine wpAnyIn_ready (rs := [0]) (by kernel_rfl) (by simp) ?_
            refine AllReadyIn.cons rfl (fun K hK => ?_) ?_
            · go_simp
              refine hK _ _ ?_
              clear hK K
              refine wpAnyIn_ready (rs := [5]) (by kernel_rfl) (by simp) ?_
              refine AllReadyIn.cons rfl (fun K hK => ?_) ?_
              · refine appIn_step rfl (fun k => w.heap.size ≤ k) _ _ _ _ _ _ 3 32 rfl Try.underlying36 info_val rfl (by decide) _ _ _ rfl ((HROW.out.keeps HK2.out (Apart.no _)).alloc _) _ rfl 1 (flat [⟨vk, vn, vt⟩]) (lit1 _ ⟨vk, vn, vt⟩ rfl) (by omega) (by omega) ?_
                intro A5 c5 w5 hR5 hK5
                have HR5 := hidden hR5
                have HK5 := hidden hK5
                have bO5 : Boxed w5 w1.heap.size 36 (.slice A pre.length c) := HK5.out.heap (blk_alloc (HK2.out.heap bO1 (fun h => h)) _) (fun e => ((HROW.out.keeps HK2.out (Apart.no _)).ne (HK2.out.heap bO1 (fun h => h)) (by decide) _ e) rfl)
                have cO5 := bO5.cell
                have fO5 := bO5.frozen
                clear hR5 hK5
                refine hK _ _ ?_
                clear hK K
                refine wpAnyIn_ready (rs := [6]) (by kernel_rfl) (by simp) ?_
                refine AllReadyIn.cons rfl (fun K hK => ?_) ?_
                · go_simp
                  refine hK _ _ ?_
                  clear hK K
                  refine wpAnyIn_done (by kernel_rfl) ?_ _
                  gi_wp2
                  exact each_end HROW.out bO1 bF1 hB1 HK2.out HR5.out HK5.out (by decide) (by decide) (by omega) (came_snoc pre ⟨⟨⟨kk, kn, kt⟩, ⟨vk, vn, vt⟩, xs, xg⟩, hx⟩) rfl
                exact AllReadyIn.nil
              exact AllReadyIn.nil
            exact AllReadyIn.nil
          exact AllReadyIn.nil
        exact AllReadyIn.nil
      exact AllReadyIn.nil
    exact AllReadyIn.nil
  case done =>
    rintro D xs W hD hys ⟨⟨⟨A, c, bO1, hRow⟩, bF1⟩, hB1⟩ hK
    have cO := bO1.cell
    have HROW := hidden hRow
    have HLE := hidden (show xs.length = (stay t.E).length by have := congrArg List.length hys; rw [List.length_map] at this; exact this)
    have HC := hidden (show came xs = stay t.E from hys)
    clear hRow hys hlok
    go_wp2
    refine ⟨by simp, .inl ⟨_, _, rfl, run_takeDeferred hK, ?_⟩⟩
    have hgr := grownBy_putObj' W D (.deferred none)
    have hr7 := row_own HROW.out hgr (fun r e => by cases e; exact ⟨_, hK, rfl⟩)
    rw [HLE.out, HC.out] at hr7
    refine ⟨_, results_tmp rfl _ _ _, hR.out _ _ ⟨A, c, fun k => w.heap.size ≤ k, by rw [← HLE.out]; rfl, hr7, ?_, fun k h => .inr h⟩⟩
    exact ((Keeps.of_below (hB1.trans (belowK_b (w := w) (Nat.le_refl _) W D _ _ (by omega) hK rfl rfl))).mono (fun i h1 h2 => by omega))
  case stop =>
    rintro D c pre W _ _ h _
    exact h.elim
end Go.Proofs.Ytfdfjogoiagnkaa
