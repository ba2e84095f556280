/- Layer 5: tables: a copy. -/
import Derived.Test.YtmefdniocgcckaaZTabS
set_option linter.unusedSimpArgs false
set_option linter.unusedVariables false
namespace Go.Proofs.Ytmefdniocgcckaa
open Go.RowKit Go.Shelf
set_option maxRecDepth 100000
attribute [local go_sem] Oper.semAt_some

/-- A key's value is put: what is there then, and the last serial. -/
def putE (L : List Ent) (s : Int) (key val : V) : List Ent × Int := if hasL L key then (putL L key val, s) else (L ++ [⟨key, val, s + 1, false⟩], s + 1)
theorem hasL_iff {L : List Ent} {key : V} : hasL L key = true ↔ ∃ x ∈ L, x.key = key := by simp [hasL]
theorem t_Put {w : World} {F : Nat → Prop} {b : Nat} {L : List Ent} {s : Int} (h : IsT w F b L s) (hs : s < 1073741823) {key : V} (val : V) (h0 : key.k ≠ 0) (hk : key.t.size ≤ 140737488351232) (hl : L.length < 1048576) :
    Calls Try.prog 37 #[.pointer (some ⟨b, 0, none⟩), key.val, val.val] w fun e w' => ∃ F' : Nat → Prop, e = .returned (.int .i64 0) ∧ IsT w' F' b (putE L s key val).1 (putE L s key val).2 ∧ Keeps F w w' ∧ Fresh F F' w := by
  unfold putE
  by_cases hh : hasL L key = true
  · rw [if_pos hh]
    obtain ⟨x, hx, rfl⟩ := hasL_iff.1 hh
    exact (t_Put_there h (by omega) hx val).mono fun _ _ ⟨he, ht, hw⟩ => ⟨F, he, ht, hw, Fresh.refl _ _⟩
  · rw [if_neg hh]
    exact t_Put_new h hs val h0 hk (fun x hx e => hh (hasL_iff.2 ⟨x, hx, e⟩)) hl
theorem putE_len (L : List Ent) (s : Int) (key val : V) : (putE L s key val).1.length ≤ L.length + 1 ∧ (putE L s key val).2 ≤ s + 1 := by
  unfold putE
  split
  · simp [putL]; omega
  · simp
/-- Every block of F holds cells. -/
def Tight (w : World) (F : Nat → Prop) : Prop := ∀ k, F k → ∃ o : Obj, w.heap[k]? = some o ∧ o.isCells = true
theorem IsT.tight {w : World} {F : Nat → Prop} {b : Nat} {L : List Ent} {s : Int} (h : IsT w F b L s) : ∃ F' : Nat → Prop, IsT w F' b L s ∧ Tight w F' ∧ ∀ k, F' k → F k := by
  obtain ⟨t, ⟨ve, vs, hT⟩, h2⟩ := h
  refine ⟨fun k => F k ∧ ∃ o : Obj, w.heap[k]? = some o ∧ o.isCells = true, ⟨t, ⟨ve, vs, hT.blk, ⟨hT.here, _, hT.blk, rfl⟩, ⟨hT.ents.1, fun k hk => ⟨hT.ents.2 k hk, ?_⟩⟩, ⟨hT.slots.1, fun k hk => ⟨hT.slots.2 k hk, ?_⟩⟩, fun k hk => hT.inw k hk.1⟩, h2⟩, fun k hk => hk.2, fun k hk => hk.1⟩
  · obtain ⟨cs, h1⟩ := own_typed hT.ents.1 k hk
    exact ⟨_, h1, rfl⟩
  · obtain ⟨cs, h1⟩ := own_typed hT.slots.1 k hk
    exact ⟨_, h1, rfl⟩
theorem Keeps.grew {w w' : World} {row : Option Nat} (h : w.grownBy w' row) : Keeps (fun k => row = some k) w w' := ⟨h.os, h.tape, h.output, h.size, fun k hk hn => h.block k hk (fun e => hn e.symm)⟩
theorem Tight.apart {w : World} {F : Nat → Prop} (h : Tight w F) {row : Option Nat} (hr : ∀ r, row = some r → ∃ o : Obj, w.heap[r]? = some o ∧ o.isCells = false) : Apart F (fun k => row = some k) := fun k hk e => by
  obtain ⟨o, h1, h2⟩ := h k hk
  obtain ⟨o', h3, h4⟩ := hr k e
  rw [h1] at h3
  cases h3
  rw [h2] at h4
  cases h4
theorem Tight.keeps {w w1 : World} {F S : Nat → Prop} (h : Tight w F) (hk : Keeps S w w1) (hn : Apart F S) : Tight w1 F := fun k hF => by
  obtain ⟨o, h1, h2⟩ := h k hF
  exact ⟨o, hk.heap h1 (hn k hF), h2⟩
/-- What turned is cells: all else lies. -/
theorem Tight.others {w w1 : World} {F : Nat → Prop} (h : Tight w F) (hk : Keeps F w w1) : KeepsOthers w w1 := ⟨hk.size, fun k o ho hc => hk.heap ho (fun hF => by
  obtain ⟨o', h1, h2⟩ := h k hF
  rw [ho] at h1
  cases h1
  rw [hc] at h2
  cases h2)⟩
theorem own_blk {β : Type} (B k : Nat) (cs : Array Value) (t : TypeId) (z : Nat × Nat) : OwnFrom B (fun (_ : β) W => W.heap[k]? = some (.cells cs t z)) := fun _ W W' row hs hg hr => (grownBy_keeps_cells hg (fun r e => (hr r e).2) hs rfl).trans hs

/-- The entries that have come. -/
def came {L : List Ent} (pre : List (LiveE L)) : List Ent := pre.map (·.1)
theorem came_snoc {L : List Ent} (pre : List (LiveE L)) (x : LiveE L) : came (pre ++ [x]) = came pre ++ [x.1] := by simp [came]
theorem came_length {L : List Ent} (pre : List (LiveE L)) : (came pre).length = pre.length := by simp [came]
def cloneE (L : List Ent) : List Ent × Int := L.foldl (fun p x => putE p.1 p.2 x.key x.val) ([], 0)
theorem cloneE_snoc (L : List Ent) (x : Ent) : cloneE (L ++ [x]) = putE (cloneE L).1 (cloneE L).2 x.key x.val := by simp [cloneE]
theorem cloneE_len (L : List Ent) : (cloneE L).1.length ≤ L.length ∧ (cloneE L).2 ≤ L.length := by
  suffices h : ∀ n (L : List Ent), L.length = n → (cloneE L).1.length ≤ L.length ∧ (cloneE L).2 ≤ L.length from h _ L rfl
  intro n
  induction n with
  | zero => intro L h; obtain rfl := List.eq_nil_of_length_eq_zero h; simp [cloneE]
  | succ n ih =>
    intro L h
    rcases List.eq_nil_or_concat L with rfl | ⟨zs, x, rfl⟩
    · simp at h
    · rw [List.concat_eq_append] at h ⊢
      obtain ⟨h1, h2⟩ := ih zs (by simp at h; omega)
      obtain ⟨h3, h4⟩ := putE_len (cloneE zs).1 (cloneE zs).2 x.key x.val
      rw [cloneE_snoc, List.length_append, List.length_singleton]
      omega

set_option maxHeartbeats 4000000 in
theorem t_Clone (w : World) (F : Nat → Prop) (b : Nat) (L : List Ent) (s : Int) (h : IsT w F b L s) (hs : s < 1073741823) :
    Calls Try.prog 34 #[.pointer (some ⟨b, 0, none⟩)] w fun e w' => ∃ b' F', e = .returned (.pointer (some ⟨b', 0, none⟩)) ∧ IsT w' F' b' (cloneE L).1 (cloneE L).2 ∧ Keeps (fun _ => False) w w' ∧ Fresh (fun _ => False) F' w := by
  have hlok := h.lok
  obtain ⟨t, hT, ho, rfl, rfl⟩ := h
  have hmany := ho.many
  refine post_gen fun R hR => ?_
  refine (callsIn_wide (n := 3)).1 ?_
  refine callsIn_of_wp_marks Try.func34 rfl trivial ?_ rfl
  simp only [Try.ntmps34, List.size_toArray, List.length_cons, List.length_nil, Nat.reduceAdd, Nat.reduceSub, Array.replicate_succ, Array.replicate_zero, List.push_toArray, List.append_toArray, List.nil_append, List.cons_append]
  gi_wp2_with (first | (refine ⟨trivial, ?_⟩; gi_at_call 30; refine (callsIn_wide.2 (t_New _)).mono ?_; rintro e w1 ⟨b', F1, rfl, hT1, hK1, hF1⟩; have HT1 := hidden hT1; have HK1 := hidden hK1; have HF1 := hidden hF1; clear hT1 hK1 hF1) | (refine ⟨trivial, ?_⟩; gi_at_call 59; refine (all_in _ b _).mono ?_; rintro e w2 ⟨rfl, rfl⟩))
  have bO := Boxed.new w1 37 (.pointer (some ⟨b', 0, none⟩))
  have bN := Boxed.new (w1.alloc (.cells #[.pointer (some ⟨b', 0, none⟩)] 37)) 37 (.pointer (some ⟨b, 0, none⟩))
  have hK0 : Keeps (fun _ => False) w ((w1.alloc (.cells #[.pointer (some ⟨b', 0, none⟩)] 37)).alloc (.cells #[.pointer (some ⟨b, 0, none⟩)] 37)) := (HK1.out.alloc _).alloc _
  have hK1 : Keeps (fun _ => False) w1 ((w1.alloc (.cells #[.pointer (some ⟨b', 0, none⟩)] 37)).alloc (.cells #[.pointer (some ⟨b, 0, none⟩)] 37)) := ((Keeps.refl _ w1).alloc _).alloc _
  have bO2 := bO.alloc (.cells #[.pointer (some ⟨b, 0, none⟩)] 37)
  have hsz : ((w1.alloc (.cells #[.pointer (some ⟨b', 0, none⟩)] 37)).alloc (.cells #[.pointer (some ⟨b, 0, none⟩)] 37)).heap.size = w1.heap.size + 2 := by simp
  have hw1 := HK1.out.size
  simp only [World.size_alloc] at bN
  obtain ⟨W0, hW0⟩ : ∃ W0, (w1.alloc (.cells #[.pointer (some ⟨b', 0, none⟩)] 37)).alloc (.cells #[.pointer (some ⟨b, 0, none⟩)] 37) = W0 := ⟨_, rfl⟩
  rw [hW0] at bN bO2 hK0 hK1 hsz ⊢
  clear hW0 bO
  have hB0 : Below w.heap.size w W0 := hK0.below (Nat.le_refl _) (fun _ h => h.elim)
  obtain ⟨F2, hT2, hTi2, hF2⟩ := (HT1.out.none hK1).tight
  have hnB : ¬ F2 w1.heap.size := fun h => by have := HT1.out.inw _ (hF2 _ h); omega
  have hF2' : ∀ k, F2 k → w.heap.size ≤ k := fun k h => (HF1.out k (hF2 k h)).elim (fun h => h.elim) id
  refine wpIn_rangeFunc_ownH (F := Fence.wide) rfl (by omega) (gf := 71) (lb := #[.pointer (some ⟨w1.heap.size + 1, 0, none⟩)]) rfl trivial (enters_of Try.func71 (by kernel_rfl) rfl)
    (all_stops (3 - 1) (w1.heap.size + 1) w.heap.size b (by omega) F t W0 (by omega) bN.cell (hT.none hK0) (fun k hk => hT.inw k hk) (by omega) (by omega)) belowK_t (belowK_b (by omega)) (Below.refl _ _) (fun _ => rfl)
    (fun pre W => ((∃ F' : Nat → Prop, IsT W F' b' (cloneE (came pre)).1 (cloneE (came pre)).2 ∧ Tight W F' ∧ (∀ k, F' k → w.heap.size ≤ k) ∧ ¬ F' w1.heap.size) ∧ Boxed W w1.heap.size 37 (.pointer (some ⟨b', 0, none⟩))) ∧ Below w.heap.size w W)
    (fun _ _ _ => False)
    (OwnFrom.and (OwnFrom.and (fun pre X Y row ⟨F', h1, h2, h3⟩ hg hr => ⟨F', h1.keeps (Keeps.grew hg) (h2.apart (fun r e => (hr r e).2)), h2.keeps (Keeps.grew hg) (h2.apart (fun r e => (hr r e).2)), h3⟩) (Own.from (boxed_own _ _ _) _)) (ownFrom_below (Nat.le_refl _) (by omega)))
    (fun _ _ _ _ _ hs _ _ => hs)
    ⟨⟨⟨F2, hT2, hTi2, hF2', hnB⟩, bO2⟩, hB0⟩
    (fun x a' W => ∃ Bx, W.heap[Bx]? = some x.1.obj ∧ a' = { tmps := #[.pointer (some ⟨b, 0, none⟩), undef, .pointer none, .pointer (some ⟨w1.heap.size, 0, none⟩), .pointer (some ⟨Bx, 0, none⟩), .pointer (some ⟨b', 0, none⟩), .pointer (some ⟨b, 0, none⟩), .func (.func 71) #[] #[.pointer (some ⟨w1.heap.size + 1, 0, none⟩)], x.1.agg, undef, undef, undef, undef, undef, undef, undef], defers := [] })
    (fun x a' _ X Y row hs hg hr => by obtain ⟨Bx, h1, h2⟩ := hs; exact ⟨Bx, own_blk (β := Unit) _ Bx _ _ _ () X Y row h1 hg hr, h2⟩)
    ?assign ?body ?done ?stop
  case assign =>
    rintro l pre x W K ⟨⟨⟨F', hT1, hTi, hF', hn1⟩, bO1⟩, hB1⟩ hK
    obtain ⟨⟨⟨kk, kn, kt⟩, ⟨vk, vn, vt⟩, xs, xg⟩, hx⟩ := x
    simp only [Ent.agg, Ent.obj] at hK ⊢
    gi_wp2
    have hkA : Keeps (fun _ => False) W (W.alloc (.cells #[.int .i64 kk, .int .i64 kn, .string kt, .int .i64 vk, .int .i64 vn, .string vt, .int .i64 xs, .bool xg] 95)) := (Keeps.refl _ W).alloc _
    exact hK _ _ ((KeepsOthers.alloc _ _).from _) ((Below.refl _ W).alloc hB1.size _) ⟨⟨⟨F', hT1.none hkA, hTi.keeps hkA (Apart.no _), hF', hn1⟩, bO1.alloc _⟩, hB1.alloc hB1.size _⟩ ⟨W.heap.size, blk_new W _, rfl⟩
  case body =>
    rintro l pre x a' W hl hr ⟨⟨⟨F', hT1, hTi, hF', hn1⟩, bO1⟩, hB1⟩ ⟨Bx, bX, rfl⟩ hlt
    have hxl := hlok.keys x.1 x.2
    have hxn := hlok.nnul x.1 x.2
    have HSN := hidden (cloneE_snoc (came pre) x.1)
    have HMP := hidden (came_snoc pre x)
    have hcl := cloneE_len (came pre)
    rw [came_length] at hcl
    have hmo := hlok.most
    have HP := hidden (t_Put hT1 (key := x.1.key) (by omega) x.1.val hxn hxl (by omega))
    obtain ⟨⟨⟨kk, kn, kt⟩, ⟨vk, vn, vt⟩, xs, xg⟩, hx⟩ := x
    simp only [Ent.agg, Ent.obj, V.val] at bX HP HSN ⊢
    have e0 := blk_cell bX 0
    have e1 := blk_cell bX 1
    have e2 := blk_cell bX 2
    have e3 := blk_cell bX 3
    have e4 := blk_cell bX 4
    have e5 := blk_cell bX 5
    simp only [List.getElem?_toArray, List.getElem?_cons_zero, List.getElem?_cons_succ] at e0 e1 e2 e3 e4 e5
    have hbx := blk_lt bX
    have cO := bO1.cell
    have hT1' := hidden hT1
    clear hT1 hlok hcl hT2 bX
    gi_wp2_with (refine ⟨trivial, ?_⟩; gi_at_call 37; refine (CallsIn.inRound l (callsIn_wide.2 HP.out)).mono ?_; rintro e W2 ⟨F4, rfl, hT4, hK4, hF4⟩; have HT4 := hidden hT4; have HK4 := hidden hK4; have HF4 := hidden hF4; clear hT4 hK4 hF4)
    obtain ⟨F3, hT3, hTi3, hF3⟩ := HT4.out.tight
    have hge : ∀ k, F4 k → w.heap.size ≤ k := fun k h => (HF4.out k h).elim (hF' k) (fun h => Nat.le_trans hB1.size h)
    refine ⟨(hTi.others HK4.out).from _, HK4.out.below hB1.size hF', ⟨⟨F3, ?_, hTi3, fun k h => hge k (hF3 k h), fun h => ?_⟩, HK4.out.heap bO1 hn1⟩, hB1.trans (HK4.out.below hB1.size hF')⟩
    · rw [HMP.out, HSN.out]; exact hT3
    · rcases HF4.out _ (hF3 _ h) with h | h
      · exact hn1 h
      · have := bO1.lt; omega
  case done =>
    rintro D ys W hD hys ⟨⟨⟨F', hT1, hTi, hF', hn1⟩, bO1⟩, hB1⟩ hK
    have cO := bO1.cell
    have HT := hidden hT1
    have HYS := hidden hys
    clear hT1 hys hlok
    gi_wp2
    refine ⟨by simp, .inl ⟨_, _, rfl, run_takeDeferred hK, ?_⟩⟩
    have hgr := grownBy_putObj' W D (.deferred none)
    have hap := hTi.apart (row := some D) (fun r e => by cases e; exact ⟨_, hK, rfl⟩)
    refine ⟨_, results_tmp rfl _ _ _, hR.out _ _ ⟨b', F', rfl, ?_, ?_, fun k h => .inr (hF' k h)⟩⟩
    · rw [← HYS.out]; exact HT.out.keeps (Keeps.grew hgr) hap
    · exact ((Keeps.of_below (hB1.trans (belowK_b (w := w) (Nat.le_refl _) W D _ _ (by omega) hK rfl rfl))).mono (fun i h1 h2 => by omega))
  case stop =>
    rintro D c pre W _ _ h _
    exact h.elim
end Go.Proofs.Ytmefdniocgcckaa
