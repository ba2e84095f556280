/- dreylaw16.LayoutClones: how all lies within the walk, and its calls. -/
import Derived.Test.YtfdfjogoiagnkaaZHead16
import Derived.Test.YtfdfjogoiagnkaaZLayH
import Derived.Test.YtfdfjogoiagnkaaZWith16
import Derived.Test.YtfdfjogoiagnkaaZPush
namespace Go.Proofs.Ytfdfjogoiagnkaa
open Go.RowKit
set_option maxRecDepth 100000

/-- The pairs of the first values. -/
def wantQ (vs : List Int) (k : Nat) : List (V × V) := (vs.take k).foldl (fun E n => withQ E (iV n, iV n)) []
theorem wantQ_succ {vs : List Int} {k : Nat} (hk : k < vs.length) : wantQ vs (k + 1) = withQ (wantQ vs k) (iV vs[k], iV vs[k]) := by
  unfold wantQ
  rw [List.take_add_one, List.getElem?_eq_getElem hk, List.foldl_append]
  rfl
theorem withQ_len (E : List (V × V)) (p : V × V) : (withQ E p).length ≤ E.length + 1 := by
  unfold withQ
  split <;> simp
theorem wantQ_len (vs : List Int) : ∀ k, (wantQ vs k).length ≤ k
  | 0 => by simp [wantQ]
  | k + 1 => by
    by_cases h : k < vs.length
    · rw [wantQ_succ h]
      have := withQ_len (wantQ vs k) (iV vs[k], iV vs[k])
      have := wantQ_len vs k
      omega
    · have e : wantQ vs (k + 1) = wantQ vs k := by unfold wantQ; rw [List.take_of_length_le (by omega), List.take_of_length_le (by omega)]
      rw [e]
      have := wantQ_len vs k
      omega
structure CL (w wr : World) (hb tb lb : Nat) (vs : List Int) (kt kl kq : Nat) (A8 : Option Addr) (c8 : Nat) : Prop where
  lie : ∃ F Ft Fl Fq L sr, Hd w hb F [] ⟨[], 0, 50, 0, 0⟩ wr ∧ IsT wr Ft tb L sr ∧ sr ≤ kt ∧ L.map Ent.kv = wantQ vs kt ∧ IsList wr Fl lb ((vs.take kl).map iV) ∧
    Row wr Fq 56 6 (.slice A8 (wantQ vs kq).length c8) (wantQ vs kq).length (flatQ (wantQ vs kq)) ∧ Apart F Ft ∧ Apart F Fl ∧ Apart Ft Fl ∧ Apart F Fq ∧ Apart Ft Fq ∧ Apart Fl Fq ∧ (∀ k, Ft k → w.heap.size ≤ k) ∧ (∀ k, Fl k → w.heap.size ≤ k) ∧ In Fq wr
  most : vs.length ≤ 60
section
variable {w wr W : World} {hb tb lb : Nat} {vs : List Int} {kt kl kq : Nat} {A8 : Option Addr} {c8 : Nat}
theorem CL.calm (h : CL w wr hb tb lb vs kt kl kq A8 c8) (hk : Keeps (fun _ => False) wr W) : CL w W hb tb lb vs kt kl kq A8 c8 := by
  obtain ⟨⟨F, Ft, Fl, Fq, L, sr, h1, h2, h3, h4, h5, h6, a1, a2, a3, a4, a5, a6, g1, g2, g3⟩, hm⟩ := h
  exact ⟨⟨F, Ft, Fl, Fq, L, sr, h1.calm hk, h2.none hk, h3, h4, h5.none hk, h6.keeps hk (Apart.no _), a1, a2, a3, a4, a5, a6, g1, g2, g3.keeps hk⟩, hm⟩
theorem CL.K (h : CL w wr hb tb lb vs kt kl kq A8 c8) : Keeps (fun k => w.heap.size ≤ k) w wr := by
  obtain ⟨⟨F, Ft, Fl, Fq, L, sr, h1, -⟩, -⟩ := h
  exact h1.K
theorem CL.put (h : CL w wr hb tb lb vs kt kl kq A8 c8) (hk : kt < vs.length) :
    Calls Try.prog 30 #[.pointer (some ⟨tb, 0, none⟩), (iV vs[kt]).val, (iV vs[kt]).val] wr fun e w' => e = .returned (.int .i64 0) ∧ CL w w' hb tb lb vs (kt + 1) kl kq A8 c8 := by
  obtain ⟨⟨F, Ft, Fl, Fq, L, sr, h1, h2, h3, h4, h5, h6, a1, a2, a3, a4, a5, a6, g1, g2, g3⟩, hm⟩ := h
  have hll : L.length ≤ kt := by
    have := congrArg List.length h4
    rw [List.length_map] at this
    rw [this]
    exact wantQ_len vs kt
  refine (t_Put h2 (by omega) (iV vs[kt]) (by simp [iV]) (Nat.zero_le _) (by omega)).mono ?_
  rintro e w' ⟨F', rfl, r1, r2, r3⟩
  have hpl := (putE_len L sr (iV vs[kt]) (iV vs[kt])).2
  refine ⟨rfl, ⟨⟨F, F', Fl, Fq, _, _, h1.other r2 a1 g1, r1, by omega, ?_, h5.keeps r2 a3.symm, h6.keeps r2 a5.symm, (a1.symm.fresh r3 h1.heap.inw).symm, a2, a3.fresh r3 h5.inw, a4, a5.fresh r3 g3, a6, fun k h => (r3 k h).elim (g1 k) (fun h => Nat.le_trans h1.K.size h), g2, g3.keeps r2⟩, hm⟩⟩
  rw [putE_kv h2.lok.kne, h4, wantQ_succ hk]
theorem CL.push (h : CL w wr hb tb lb vs kt kl kq A8 c8) (hk : kl < vs.length) {A : Option Addr} (hv : Vals wr A [iV vs[kl]]) :
    Calls Try.prog 31 #[.pointer (some ⟨lb, 0, none⟩), .slice A 1 1] wr fun e w' => e = .returned (.int .i64 0) ∧ CL w w' hb tb lb vs kt (kl + 1) kq A8 c8 := by
  obtain ⟨⟨F, Ft, Fl, Fq, L, sr, h1, h2, h3, h4, h5, h6, a1, a2, a3, a4, a5, a6, g1, g2, g3⟩, hm⟩ := h
  refine (list_Push_ok wr Fl lb _ [iV vs[kl]] A 1 h5 hv (by simp; omega)).mono ?_
  rintro e w' ⟨F', rfl, r1, r2, r3⟩
  refine ⟨rfl, ⟨⟨F, Ft, F', Fq, L, sr, h1.other r2 a2 g2, h2.keeps r2 a3, h3, h4, ?_, h6.keeps r2 a6.symm, a1, (a2.symm.fresh r3 h1.heap.inw).symm, (a3.symm.fresh r3 h2.inw).symm, a4, a5, a6.fresh r3 g3, g1, fun k h => (r3 k h).elim (g2 k) (fun h => Nat.le_trans h1.K.size h), g3.keeps r2⟩, hm⟩⟩
  rw [List.take_add_one, List.getElem?_eq_getElem hk, List.map_append]
  exact r1
theorem CL.with_ (h : CL w wr hb tb lb vs kt kl kq A8 c8) (hk : kq < vs.length) :
    Calls Try.prog 20 #[.slice A8 (wantQ vs kq).length c8, .agg #[.int .i64 2, .int .i64 vs[kq], .string ⟨#[]⟩, .int .i64 2, .int .i64 vs[kq], .string ⟨#[]⟩]] wr fun e w' => ∃ A' c', e = .returned (.slice A' (wantQ vs (kq + 1)).length c') ∧ CL w w' hb tb lb vs kt kl (kq + 1) A' c' := by
  obtain ⟨⟨F, Ft, Fl, Fq, L, sr, h1, h2, h3, h4, h5, h6, a1, a2, a3, a4, a5, a6, g1, g2, g3⟩, hm⟩ := h
  have hlen := wantQ_len vs kq
  refine (with16 wr A8 c8 (wantQ vs kq) (iV vs[kq], iV vs[kq]) (Qs.own h6.1) (by omega)).mono ?_
  rintro e w' ⟨A', c', F', rfl, r1, r2, r3, r4⟩
  rw [← wantQ_succ hk] at r1 ⊢
  have hnew : ∀ (G : Nat → Prop), In G wr → Apart G F' := fun G hG k h1 h2 => (r4 k h2).elim (fun h => h) (fun h => by have := hG k h1; omega)
  exact ⟨A', c', rfl, ⟨⟨F, Ft, Fl, F', L, sr, h1.calm r3, h2.none r3, h3, h4, h5.none r3, r1, a1, a2, a3, hnew F h1.heap.inw, hnew Ft h2.inw, hnew Fl h5.inw, g1, g2, r2⟩, hm⟩⟩
/-- The thing lies in the heap. -/
structure CM (w wr : World) (hb i p : Nat) (kind : Int) (tb lb : Nat) (vs : List Int) (A8 : Option Addr) (c8 : Nat) : Prop where
  lie : ∃ F H s Fq L sr, Hd w hb F H s wr ∧ s.live = 1 ∧ s.limit = 50 ∧ H[i]? = some (some (p, ⟨kind, [V.null], some (lb, vs.map iV), some (tb, L, sr), [], ⟨#[]⟩⟩)) ∧ L.map Ent.kv = wantQ vs vs.length ∧ sr ≤ vs.length ∧
    Row wr Fq 56 6 (.slice A8 (wantQ vs vs.length).length c8) (wantQ vs vs.length).length (flatQ (wantQ vs vs.length)) ∧ Apart F Fq ∧ In Fq wr
  most : vs.length ≤ 60
theorem CL.alloc (h : CL w wr hb tb lb vs vs.length vs.length vs.length A8 c8) {kind : Int} (hk : 1 ≤ kind ∧ kind < 11) {a : Addr} (hv : Vals wr (some a) [V.null]) :
    Calls Try.prog 15 #[.pointer (some ⟨hb, 0, none⟩), .agg #[.int .i64 kind, .slice (some a) 1 1, .pointer (some ⟨lb, 0, none⟩), .pointer (some ⟨tb, 0, none⟩), .slice none 0 0, .string ⟨#[]⟩]] wr fun e w' => ∃ i p : Nat, e = .returned (.tuple #[.int .i64 (i : Nat), .int .i64 0]) ∧ CM w w' hb i p kind tb lb vs A8 c8 := by
  obtain ⟨⟨F, Ft, Fl, Fq, L, sr, h1, h2, h3, h4, h5, h6, a1, a2, a3, a4, a5, a6, g1, g2, g3⟩, hm⟩ := h
  rw [List.take_length] at h5
  have hg : Given wr F Fl Ft ⟨kind, [V.null], some (lb, vs.map iV), some (tb, L, sr), [], ⟨#[]⟩⟩ (some a) none (some ⟨lb, 0, none⟩) (some ⟨tb, 0, none⟩) :=
    ⟨hv, fun e => (Option.some_ne_none _ e).elim, fun i x h => by simp at h, fun _ => rfl, ⟨rfl, h5⟩, ⟨rfl, h2⟩, a2, a1, a3.symm, h5.inw, h2.inw, ⟨by show [V.null].length ≤ 1048576; simp, Nat.zero_le _, fun b xs e => by cases e; simp; omega, fun b L s e => by cases e; omega⟩⟩
  refine (heap_Alloc_made (cv := 1) (cn := 0) h1.heap h1.ok hg hk (by decide)).mono ?_
  rintro e w' ⟨i, p, F', H', s', rfl, hM⟩
  have hd := h1.made hM (fun k h => h.elim (g2 k) (g1 k))
  exact ⟨i, p, rfl, ⟨⟨F', H', s', Fq, L, sr, hd, hM.live, hM.limit, hM.new.at_, h4, h3, h6.keeps hM.keeps a4.symm, fun k h1 h2 => (hM.fresh k h1).elim (fun h => h.elim (fun h => a4 k h h2) (fun h => h.elim (fun h => a6 k h h2) (fun h => a5 k h h2))) (fun h => by have := g3 k h2; omega), g3.keeps hM.keeps⟩, hm⟩⟩
theorem CL.type (h : CL w wr hb tb lb vs vs.length vs.length vs.length A8 c8) {kind : Int} (hk : ¬ (1 ≤ kind ∧ kind < 11)) {a : Addr} :
    Calls Try.prog 15 #[.pointer (some ⟨hb, 0, none⟩), .agg #[.int .i64 kind, .slice (some a) 1 1, .pointer (some ⟨lb, 0, none⟩), .pointer (some ⟨tb, 0, none⟩), .slice none 0 0, .string ⟨#[]⟩]] wr fun e w' => e = .returned (.tuple #[.int .i64 0, .int .i64 30]) ∧ Keeps (fun _ => False) wr w' :=
  heap_Alloc_type wr (fun _ => False) hb [] ⟨[], 0, 50, 0, 0⟩ ⟨kind, [V.null], none, none, [], ⟨#[]⟩⟩ (some a) none (some ⟨lb, 0, none⟩) (some ⟨tb, 0, none⟩) 1 0 (by simp only; omega)
end
end Go.Proofs.Ytfdfjogoiagnkaa
