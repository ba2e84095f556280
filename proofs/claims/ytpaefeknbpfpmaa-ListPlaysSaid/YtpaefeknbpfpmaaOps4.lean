/- Layer 4: acts on lists (dreylaw04.Op); valsOf; the state of a play. -/
import Derived.Test.YtpaefeknbpfpmaaOpenV
import Derived.Test.YtpaefeknbpfpmaaSame4
import Derived.Test.YtpaefeknbpfpmaaListH
import Derived.Deep.RegionHeld3
namespace Go.Proofs.Ytpaefeknbpfpmaa
open Go.RowKit
set_option maxRecDepth 100000

structure LOp where
  k : Int
  a : Int
  v : V
def LOp.cells (o : LOp) : List Value := .int .i64 o.k :: .int .i64 o.a :: o.v.cells
/-- Acts that stand in a row that is read. -/
def Lops (w : World) (A : Option Addr) (xs : List LOp) : Prop := ∀ i x, xs[i]? = some x → ∃ b o, A = some ⟨b, o, none⟩ ∧ w.cell? ⟨b, o + i * 5, none⟩ = some (.int .i64 x.k) ∧ w.cell? ⟨b, o + i * 5 + 1, none⟩ = some (.int .i64 x.a) ∧ w.cell? ⟨b, o + i * 5 + 2, none⟩ = some (.int .i64 x.v.k) ∧ w.cell? ⟨b, o + i * 5 + 3, none⟩ = some (.int .i64 x.v.n) ∧ w.cell? ⟨b, o + i * 5 + 4, none⟩ = some (.string x.v.t)
theorem Lops.keeps {w w1 : World} {S : Nat → Prop} {A : Option Addr} {xs : List LOp} (h : Lops w A xs) (hk : Keeps S w w1) (hn : ∀ j, j < w.heap.size → ¬ S j) : Lops w1 A xs := fun i x hi => by
  obtain ⟨b, o, rfl, h1, h2, h3, h4, h5⟩ := h i x hi
  have hb := hn b (World.block_lt_of_cell? w _ h1)
  exact ⟨b, o, rfl, hk.cell h1 hb, hk.cell h2 hb, hk.cell h3 hb, hk.cell h4 hb, hk.cell h5 hb⟩
theorem Lops.far {w w1 : World} {A : Option Addr} {xs : List LOp} (h : Lops w A xs) (hk : Keeps (fun k => w.heap.size ≤ k) w w1) : Lops w1 A xs := h.keeps hk (fun k h1 h2 => by omega)
theorem Lops.none {w w1 : World} {A : Option Addr} {xs : List LOp} (h : Lops w A xs) (hk : Keeps (fun _ => False) w w1) : Lops w1 A xs := h.keeps hk (fun _ _ h2 => h2)

theorem lit_src (w : World) (y : V) {m : Nat} (hm : m = w.heap.size) : Src Try.prog 3 60 (.slice (some ⟨m, 0, none⟩) 1 1) 1 (flat [y]) (w.alloc (.cells #[.int .i64 y.k, .int .i64 y.n, .string y.t] 30)) :=
  (show Vals (w.alloc (.cells #[.int .i64 y.k, .int .i64 y.n, .string y.t] 30)) (some ⟨m, 0, none⟩) [y] from Vals.lit w [y] 30 hm).src (c := 1) Try.underlying60
theorem lit_src2 (w : World) (y : V) {m : Nat} (hm : m = w.heap.size) : Src Try.prog 3 60 (.slice (some ⟨m, 0, none⟩) 2 2) 2 (flat [y, y]) (w.alloc (.cells #[.int .i64 y.k, .int .i64 y.n, .string y.t, .int .i64 y.k, .int .i64 y.n, .string y.t] 30)) :=
  (show Vals (w.alloc (.cells #[.int .i64 y.k, .int .i64 y.n, .string y.t, .int .i64 y.k, .int .i64 y.n, .string y.t] 30)) (some ⟨m, 0, none⟩) [y, y] from Vals.lit w [y, y] 30 hm).src (c := 2) Try.underlying60

set_option maxHeartbeats 1000000 in
theorem valsOf_any (w : World) (A : Option Addr) (c : Nat) (xs : List LOp) (h : Lops w A xs) (hl : xs.length ≤ 1048576) :
    Calls Try.prog 40 #[.slice A xs.length c] w fun e w' => ∃ A' c' F', e = .returned (.slice A' xs.length c') ∧ Row w' F' 30 3 (.slice A' xs.length c') xs.length (flat (xs.map (·.v))) ∧ Keeps (fun _ => False) w w' := by
  have HV := hidden h
  clear h
  refine post_gen fun R hR => ?_
  go_enter Try.func40, Try.ntmps40
  go_wp2
  go_loopw [3, 8] (fun o i wr => ∃ (k : Nat) (A' : Option Addr) (c' : Nat) (F' : Nat → Prop), k ≤ xs.length ∧ i = .int .i64 k ∧ o = .slice A' k c' ∧ Row wr F' 30 3 (.slice A' k c') k (flat ((xs.take k).map (·.v))) ∧ Keeps (fun _ => False) w wr ∧ Fresh (fun _ => False) F' w) (fun _ i _ => xs.length - (intOf i).toNat)
  case atStart => exact ⟨0, none, 0, fun _ => False, Nat.zero_le _, rfl, rfl, Row.nil _ _ _ _, Keeps.refl _ _, Fresh.refl _ _⟩
  case round =>
    obtain ⟨k, A', c', F', hk, rfl, rfl, hRow, hK, hF⟩ := hrel
    have HR := hidden hRow
    clear hRow
    by_cases hlt : k < xs.length
    · obtain ⟨rb, ro, rfl, h0, h1, h2, h3, h4⟩ := (HV.out.none hK) k xs[k] (List.getElem?_eq_getElem hlt)
      have hr := World.block_lt_of_cell? wr _ h0
      have HS := hidden (show (xs.take (k + 1)).map (·.v) = (xs.take k).map (·.v) ++ [xs[k].v] by rw [List.take_succ_eq_append_getElem hlt, List.map_append]; rfl)
      generalize xs[k] = x at *
      go_wp2_with (at_builtin; refine app_list rfl F' _ _ _ _ _ _ 3 32 rfl Try.underlying60 info_val rfl (by decide) _ _ _ rfl ((HR.out.alloc _).alloc _) _ rfl 1 _ (lit_src (wr.alloc _) x.v (by simp)) (by omega) (by omega) ?_; intro A2 c2 w2 hR2 hK2; have HR2 := hidden hR2; have HK2 := hidden hK2; clear hR2 hK2)
      go_roundw
      case rel =>
        obtain ⟨g1, g2, g3⟩ := app_lit_end (HR.out.alloc _) (hK.alloc _) hF HR2.out HK2.out
        refine ⟨k + 1, A2, c2, _, hlt, by go_num, by simp, ?_, g2, g3⟩
        rw [HS.out, flat_append]
        exact g1
      case measure => simp [intOf]; omega
    · obtain rfl : k = xs.length := by omega
      have HR2 := HR.out
      rw [List.take_length] at HR2
      have HR3 := hidden HR2
      clear HR2
      go_wp2
      exact hR.out _ _ ⟨A', c', F', rfl, HR3.out, hK⟩

def sliceLen : Value → Nat
  | .slice _ n _ => n
  | _ => 0
/-- A play: the list of xs at b; the model's row of ys. -/
structure PlaySt (w : World) (b : Nat) (F G : Nat → Prop) (A : Option Addr) (c : Nat) (xs ys : List V) (wr : World) : Prop where
  li : IsList wr F b xs
  row : Row wr G 30 3 (.slice A ys.length c) ys.length (flat ys)
  inG : In G wr
  ap : Apart F G
  hF : ∀ k, F k → w.heap.size ≤ k
  hG : ∀ k, G k → w.heap.size ≤ k
  K : Keeps (fun k => w.heap.size ≤ k) w wr
section
variable {w wr wj : World} {b : Nat} {F G : Nat → Prop} {A : Option Addr} {c : Nat} {xs ys : List V}
theorem PlaySt.none (h : PlaySt w b F G A c xs ys wr) (hk : Keeps (fun _ => False) wr wj) : PlaySt w b F G A c xs ys wj :=
  ⟨h.li.none hk, h.row.keeps hk (Apart.no _), h.inG.keeps hk, h.ap, h.hF, h.hG, h.K.step (fun _ h => h.elim) hk⟩
theorem PlaySt.list {F' : Nat → Prop} {zs : List V} (h : PlaySt w b F G A c xs ys wr) (hk : Keeps F wr wj) (hf : Fresh F F' wr) (hl : IsList wj F' b zs) : PlaySt w b F' G A c zs ys wj :=
  ⟨hl, h.row.keeps hk h.ap.symm, h.inG.keeps hk, h.ap.fresh hf h.inG, hf.ge h.hF h.K.size, h.hG, h.K.step h.hF hk⟩
theorem PlaySt.want {G' : Nat → Prop} {A' : Option Addr} {c' : Nat} {zs : List V} (h : PlaySt w b F G A c xs ys wr) (hk : Keeps G wr wj) (hf : Fresh G G' wr) (hin : In G' wj) (hr : Row wj G' 30 3 (.slice A' zs.length c') zs.length (flat zs)) : PlaySt w b F G' A' c' xs zs wj :=
  ⟨h.li.keeps hk h.ap, hr, hin, (h.ap.symm.fresh hf h.li.inw).symm, h.hF, hf.ge h.hG h.K.size, h.K.step h.hG hk⟩
/-- Behind an append onto the model's row. -/
theorem PlaySt.grew {A' : Option Addr} {c' n : Nat} {zs news : List V} {m : Nat} (h : PlaySt w b F G A c xs ys wr) (hk : Keeps (fun k => (Value.slice A ys.length c).ownBlock = some k) wr wj) (hn : n = zs.length) (hz : zs = ys ++ news)
    (hr : Row wj (fun k => G k ∨ m ≤ k) 30 3 (.slice A' n c') n (flat ys ++ flat news)) (hm : wr.heap.size ≤ m) : PlaySt w b F (fun k => (G k ∨ wr.heap.size ≤ k) ∧ k < wj.heap.size) A' c' xs zs wj := by
  subst hn
  rw [← flat_append, ← hz] at hr
  refine h.want (hk.mono fun k _ e => h.row.2 k e) (fun k hk => hk.1) (fun k hk => hk.2) ⟨hr.1, fun k hk => ⟨(hr.2 k hk).imp id (fun h => by omega), hr.lt k hk⟩⟩
/-- Blocks turned that are neither's. -/
theorem PlaySt.away {S : Nat → Prop} (h : PlaySt w b F G A c xs ys wr) (hk : Keeps S wr wj) (h1 : Apart F S) (h2 : Apart G S) (h3 : ∀ k, S k → w.heap.size ≤ k) : PlaySt w b F G A c xs ys wj :=
  ⟨h.li.keeps hk h1, h.row.keeps hk h2, h.inG.keeps hk, h.ap, h.hF, h.hG, h.K.step h3 hk⟩
/-- The model's row made anew. -/
theorem PlaySt.anew {G' : Nat → Prop} {A' : Option Addr} {c' n : Nat} {zs : List V} (h : PlaySt w b F G A c xs ys wr) (hk : Keeps (fun _ => False) wr wj) (hn : n = zs.length) (hf : ∀ k, G' k → wr.heap.size ≤ k) (hr : Row wj G' 30 3 (.slice A' n c') n (flat zs)) : PlaySt w b F (fun k => wr.heap.size ≤ k ∧ k < wj.heap.size) A' c' xs zs wj := by
  subst hn
  exact h.want (hk.mono (fun _ _ h => h.elim)) (fun k hk => .inr hk.1) (fun k hk => hk.2) ⟨hr.1, fun k hk => ⟨hf k (hr.2 k hk), hr.lt k hk⟩⟩
theorem PlaySt.cut {zs : List V} (h : PlaySt w b F G A c xs ys wr) (m n : Nat) (hm : m ≤ ys.length) (hn : n = m) (hz : zs = ys.take m) : PlaySt w b F G A c xs zs wr := by
  subst hn hz
  have hl : (ys.take n).length = n := by simp; omega
  refine ⟨h.li, ?_, h.inG, h.ap, h.hF, h.hG, h.K⟩
  rw [hl, ← flat_take]
  exact h.row.take hm
theorem PlaySt.box (h : PlaySt w b F G A c xs ys wr) : ¬ F wr.heap.size ∧ ¬ G wr.heap.size := ⟨fun x => by have := h.li.inw _ x; omega, fun x => by have := h.inG _ x; omega⟩
theorem srcTake {W : World} {G : Nat → Prop} {A : Option Addr} {n c i : Nat} {ys : List V} (h : Row W G 30 3 (.slice A n c) n (flat ys)) (hn : n = ys.length) (hi : i ≤ n) : Src Try.prog 3 60 (.slice A i c) i (flat (ys.take i)) W := by
  have h2 := (h.take hi).1
  rw [flat_take] at h2
  have h3 := (Vals.own h2).src (P := Try.prog) (c := c) Try.underlying60
  rwa [show (ys.take i).length = i by simp; omega] at h3
theorem srcDrop {W : World} {G : Nat → Prop} {g n c i : Nat} {ys : List V} (h : Row W G 30 3 (.slice (some ⟨g, 0, none⟩) n c) n (flat ys)) (hn : n = ys.length) (hi : i ≤ n) :
    ∃ (q s9 c9 : Nat), (c = i → q = 0 ∧ s9 = 0 ∧ c9 = 0) ∧ (¬ c = i → q = i * 3 ∧ s9 = n - i ∧ c9 = c - i) ∧ s9 = n - i ∧ ∀ (W' : World) (G' : Nat → Prop), Row W' G' 30 3 (.slice (some ⟨g, 0, none⟩) n c) n (flat ys) → Src Try.prog 3 60 (.slice (some ⟨g, q, none⟩) s9 c9) s9 (flat (ys.drop i)) W' := by
  have hcap := h.cap
  have hl : (flat (ys.drop i)).length = (n - i) * 3 := by rw [flat_length, List.length_drop, hn]
  by_cases hz : c = i
  · refine ⟨0, 0, 0, fun _ => ⟨rfl, rfl, rfl⟩, fun h => absurd hz h, by omega, fun W' G' h' => ?_⟩
    rw [List.drop_eq_nil_of_le (by omega)]
    exact Src.ofSlice W' Try.underlying60 _ _ _ _ rfl (fun j u hj => by simp [flat] at hj) (fun u hu => by simp [flat] at hu)
  · refine ⟨i * 3, n - i, c - i, fun h => absurd h hz, fun _ => ⟨rfl, rfl, rfl⟩, rfl, fun W' G' h' => ?_⟩
    by_cases h0 : n = 0
    · have : ys = [] := List.eq_nil_of_length_eq_zero (by omega)
      subst this
      rw [show n - i = 0 by omega]
      exact Src.ofSlice W' Try.underlying60 _ _ _ _ (by simp [flat]) (fun j u hj => by simp [flat] at hj) (fun u hu => by simp [flat] at hu)
    · obtain ⟨g', cur, e, hFg, hg, hnc, hcm, hcs, htk⟩ := h'.blk (by omega)
      simp at e
      subst e
      subst hn
      exact Src.ofSlice W' Try.underlying60 _ _ _ _ hl (laid_at hg htk hi) (flat_one _)
theorem made0' (w0 : World) (e size : Nat) {m : Nat} (hm : m = w0.heap.size) {F : Nat → Prop} (hF : F m) : Row (w0.alloc (.cells #[] e)) F e size (.slice (some ⟨m, 0, none⟩) 0 0) 0 [] := by
  subst hm
  exact (Row.made0 w0 e size).mono (fun k _ h => by subst h; exact hF)
theorem lit_drew (w : World) (y : V) {m : Nat} (hm : m = w.heap.size) : Vals (w.alloc (.cells #[.int .i64 y.k, .int .i64 y.n, .string y.t] 30)).drew (some ⟨m, 0, none⟩) [y] := Vals.lit w [y] 30 hm
theorem lit_drew2 (w : World) (y : V) (o : Obj) {m : Nat} (hm : m = w.heap.size) : Vals ((w.alloc (.cells #[.int .i64 y.k, .int .i64 y.n, .string y.t] 30)).alloc o).drew (some ⟨m, 0, none⟩) [y] :=
  (show Vals (w.alloc (.cells #[.int .i64 y.k, .int .i64 y.n, .string y.t] 30)) (some ⟨m, 0, none⟩) [y] from Vals.lit w [y] 30 hm).keeps ((Keeps.refl (fun _ => False) _).alloc o).drew (fun _ _ _ _ h => h)
end
end Go.Proofs.Ytpaefeknbpfpmaa
