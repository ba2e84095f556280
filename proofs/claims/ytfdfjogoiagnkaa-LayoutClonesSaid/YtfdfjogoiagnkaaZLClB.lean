/- dreylaw16.LayoutClones: how all lies behind the copy. -/
import Derived.Test.YtfdfjogoiagnkaaZLClA
namespace Go.Proofs.Ytfdfjogoiagnkaa
open Go.RowKit
set_option maxRecDepth 100000

/-- Behind the copy: the thing at i, the copy at i2. -/
structure CN (w wr : World) (hb i i2 p2 : Nat) (c2 : Cl) (tb lb : Nat) (vs : List Int) (A8 : Option Addr) (c8 : Nat) : Prop where
  lie : ∃ F H s Fq p kind L sr, Hd w hb F H s wr ∧ H[i]? = some (some (p, ⟨kind, [V.null], some (lb, vs.map iV), some (tb, L, sr), [], ⟨#[]⟩⟩)) ∧ H[i2]? = some (some (p2, c2)) ∧ L.map Ent.kv = wantQ vs vs.length ∧ sr ≤ vs.length ∧
    Row wr Fq 56 6 (.slice A8 (wantQ vs vs.length).length c8) (wantQ vs vs.length).length (flatQ (wantQ vs vs.length)) ∧ Apart F Fq ∧ In Fq wr
  most : vs.length ≤ 60
  ne : i2 ≠ i
section
variable {w wr W : World} {hb i i2 p p2 tb lb : Nat} {c2 : Cl} {vs : List Int} {A8 : Option Addr} {c8 : Nat} {kind : Int}
theorem CM.K (h : CM w wr hb i p kind tb lb vs A8 c8) : Keeps (fun k => w.heap.size ≤ k) w wr := by
  obtain ⟨⟨F, H, s, Fq, L, sr, h1, -⟩, -⟩ := h
  exact h1.K
theorem CM.calm (h : CM w wr hb i p kind tb lb vs A8 c8) (hk : Keeps (fun _ => False) wr W) : CM w W hb i p kind tb lb vs A8 c8 := by
  obtain ⟨⟨F, H, s, Fq, L, sr, h1, h2, h3, h4, h5, h6, h7, h8, h9⟩, hm⟩ := h
  exact ⟨⟨F, H, s, Fq, L, sr, h1.calm hk, h2, h3, h4, h5, h6, h7.keeps hk (Apart.no _), h8, h9.keeps hk⟩, hm⟩
theorem CN.K (h : CN w wr hb i i2 p2 c2 tb lb vs A8 c8) : Keeps (fun k => w.heap.size ≤ k) w wr := by
  obtain ⟨⟨F, H, s, Fq, p, kind, L, sr, h1, -⟩, -, -⟩ := h
  exact h1.K
theorem CN.calm (h : CN w wr hb i i2 p2 c2 tb lb vs A8 c8) (hk : Keeps (fun _ => False) wr W) : CN w W hb i i2 p2 c2 tb lb vs A8 c8 := by
  obtain ⟨⟨F, H, s, Fq, p, kind, L, sr, h1, h2, h3, h4, h5, h6, h7, h8⟩, hm, hn⟩ := h
  exact ⟨⟨F, H, s, Fq, p, kind, L, sr, h1.calm hk, h2, h3, h4, h5, h6.keeps hk (Apart.no _), h7, h8.keeps hk⟩, hm, hn⟩
theorem CM.clone1 (h : CM w wr hb i p 1 tb lb vs A8 c8) :
    Calls Try.prog 32 #[.pointer (some ⟨hb, 0, none⟩), V.val ⟨4, i, ⟨#[]⟩⟩] wr fun e w' => ∃ i2 p2 lb2 : Nat, e = .returned (.tuple #[V.val ⟨4, (i2 : Nat), ⟨#[]⟩⟩, .int .i64 0]) ∧ CN w w' hb i i2 p2 ⟨1, [V.null], some (lb2, vs.map iV), none, [], ⟨#[]⟩⟩ tb lb vs A8 c8 := by
  obtain ⟨⟨F, H, s, Fq, L, sr, h1, h2, h3, h4, h5, h6, h7, h8, h9⟩, hm⟩ := h
  refine (lay_Clone_list h1.heap h1.ok (by rw [h2, h3]; decide) h4 rfl (lb := lb) (xs := vs.map iV) rfl).mono ?_
  rintro e w' ⟨i2, p2, lb2, F', H', s', rfl, hM⟩
  exact ⟨i2, p2, lb2, rfl, ⟨⟨F', H', s', Fq, p, 1, L, sr, h1.made hM (fun k h => h.elim), hM.new.old h4, hM.new.at_, h5, h6, h7.keeps hM.keeps h8.symm, h8.fresh hM.fr h9, h9.keeps hM.keeps⟩, hm, fun e => hM.new.ne h4 e.symm⟩⟩
theorem CM.clone2 (h : CM w wr hb i p kind tb lb vs A8 c8) (hk : kind = 2 ∨ kind = 4) :
    Calls Try.prog 32 #[.pointer (some ⟨hb, 0, none⟩), V.val ⟨4, i, ⟨#[]⟩⟩] wr fun e w' => ∃ (i2 p2 tb2 : Nat) (M : List Ent) (sm : Int), e = .returned (.tuple #[V.val ⟨4, (i2 : Nat), ⟨#[]⟩⟩, .int .i64 0]) ∧ M.map Ent.kv = wantQ vs vs.length ∧ sm ≤ 60 ∧ CN w w' hb i i2 p2 ⟨kind, [V.null], none, some (tb2, M, sm), [], ⟨#[]⟩⟩ tb lb vs A8 c8 := by
  obtain ⟨⟨F, H, s, Fq, L, sr, h1, h2, h3, h4, h5, h6, h7, h8, h9⟩, hm⟩ := h
  have hlk : L.Pairwise (fun a b => a.key ≠ b.key) ∧ L.length ≤ 60 := by
    obtain ⟨Ft, g1, -⟩ := held_tab2 h1.heap h4 (tb := tb) (L := L) (sr := sr) rfl
    refine ⟨g1.lok.kne, ?_⟩
    have := congrArg List.length h5
    rw [List.length_map] at this
    have := wantQ_len vs vs.length
    omega
  refine (lay_Clone_table h1.heap h1.ok (by rw [h2, h3]; decide) h4 hk (tb0 := tb) (L := L) (sr := sr) rfl (by omega)).mono ?_
  rintro e w' ⟨i2, p2, tb2, F', H', s', rfl, hM⟩
  have hcl := cloneE_len L
  exact ⟨i2, p2, tb2, (cloneE L).1, (cloneE L).2, rfl, (cloneE_kv L hlk.1).trans h5, by omega, ⟨⟨F', H', s', Fq, p, kind, L, sr, h1.made hM (fun k h => h.elim), hM.new.old h4, hM.new.at_, h5, h6, h7.keeps hM.keeps h8.symm, h8.fresh hM.fr h9, h9.keeps hM.keeps⟩, hm, fun e => hM.new.ne h4 e.symm⟩⟩
theorem CM.clone0 (h : CM w wr hb i p kind tb lb vs A8 c8) (hk : kind ≠ 1 ∧ kind ≠ 2 ∧ kind ≠ 4) :
    Calls Try.prog 32 #[.pointer (some ⟨hb, 0, none⟩), V.val ⟨4, i, ⟨#[]⟩⟩] wr fun e w' => e = .returned (.tuple #[V.val V.null, .int .i64 30]) ∧ Keeps (fun _ => False) wr w' := by
  obtain ⟨⟨F, H, s, Fq, L, sr, h1, h2, h3, h4, h5, h6, h7, h8, h9⟩, hm⟩ := h
  exact lay_Clone_type h1.heap h4 hk
theorem CN.of (h : CN w wr hb i i2 p2 c2 tb lb vs A8 c8) :
    Calls Try.prog 24 #[.pointer (some ⟨hb, 0, none⟩), V.val ⟨4, i2, ⟨#[]⟩⟩, .int .i64 c2.kind] wr fun e w' => e = .returned (.tuple #[.pointer (some ⟨p2, 0, none⟩), .int .i64 0]) ∧ Keeps (fun _ => False) wr w' := by
  obtain ⟨⟨F, H, s, Fq, p, kind, L, sr, h1, h2, h3, -⟩, -, -⟩ := h
  exact heap_Of_ok h1.heap h3 _ ⟨#[]⟩ (.inr rfl)
theorem CN.cell2 {lb2 : Nat} {ys : List V} {kd : Int} (h : CN w wr hb i i2 p2 ⟨kd, [V.null], some (lb2, ys), none, [], ⟨#[]⟩⟩ tb lb vs A8 c8) : wr.cell? ⟨p2, 2, none⟩ = some (.pointer (some ⟨lb2, 0, none⟩)) ∧ p2 < wr.heap.size := by
  obtain ⟨⟨F, H, s, Fq, p, kind, L, sr, h1, h2, h3, -⟩, -, -⟩ := h
  obtain ⟨Fl, g1, g2, -⟩ := held_list h1.heap h3 (b := lb2) (xs := ys) rfl
  exact ⟨g1, g2⟩
theorem CN.cell3 {tb2 : Nat} {M : List Ent} {sm kd : Int} (h : CN w wr hb i i2 p2 ⟨kd, [V.null], none, some (tb2, M, sm), [], ⟨#[]⟩⟩ tb lb vs A8 c8) : wr.cell? ⟨p2, 3, none⟩ = some (.pointer (some ⟨tb2, 0, none⟩)) ∧ p2 < wr.heap.size := by
  obtain ⟨⟨F, H, s, Fq, p, kind, L, sr, h1, h2, h3, -⟩, -, -⟩ := h
  obtain ⟨Ft, g0, g1, g2, -⟩ := held_tab2 h1.heap h3 (tb := tb2) (L := M) (sr := sm) rfl
  exact ⟨g1, g2⟩
theorem CN.push {lb2 : Nat} {ys : List V} {kd : Int} (h : CN w wr hb i i2 p2 ⟨kd, [V.null], some (lb2, ys), none, [], ⟨#[]⟩⟩ tb lb vs A8 c8) (hy : ys.length ≤ 60) {A : Option Addr} {x : V} (hv : Vals wr A [x]) :
    Calls Try.prog 31 #[.pointer (some ⟨lb2, 0, none⟩), .slice A 1 1] wr fun e w' => e = .returned (.int .i64 0) ∧ CN w w' hb i i2 p2 ⟨kd, [V.null], some (lb2, ys ++ [x]), none, [], ⟨#[]⟩⟩ tb lb vs A8 c8 := by
  obtain ⟨⟨F, H, s, Fq, p, kind, L, sr, h1, h2, h3, h4, h5, h6, h7, h8⟩, hm, hn⟩ := h
  obtain ⟨Fl, g1, g2, g3, g4, g5⟩ := held_list h1.heap h3 (b := lb2) (xs := ys) rfl
  refine (list_Push_ok wr Fl lb2 ys [x] A 1 g3 hv (by simp; omega)).mono ?_
  rintro e w' ⟨F', rfl, r1, r2, r3⟩
  obtain ⟨F2, q1, q2, q3⟩ := g5 w' F' _ r2 r1 r3 (by simp; omega)
  have hil := (List.getElem?_eq_some_iff.1 h3).1
  exact ⟨rfl, ⟨⟨F2, _, s, Fq, p, kind, L, sr, ⟨q1, h1.ok.turn h3 _, fun k h => (q3 k h).elim (h1.hF k) (fun h => Nat.le_trans h1.K.size h), h1.K.trans q2 (fun k _ h => h1.hF k h)⟩, by rw [List.getElem?_set_ne hn]; exact h2, by rw [List.getElem?_set_self hil], h4, h5, h6.keeps q2 h7.symm, h7.fresh q3 h8, h8.keeps q2⟩, hm, hn⟩⟩
theorem CN.len2 {lb2 : Nat} {ys : List V} {kd : Int} (h : CN w wr hb i i2 p2 ⟨kd, [V.null], some (lb2, ys), none, [], ⟨#[]⟩⟩ tb lb vs A8 c8) :
    Calls Try.prog 33 #[.pointer (some ⟨lb2, 0, none⟩)] wr fun e w' => e = .returned (.int .i64 ys.length) ∧ wr = w' := by
  obtain ⟨⟨F, H, s, Fq, p, kind, L, sr, h1, h2, h3, -⟩, -, -⟩ := h
  obtain ⟨Fl, g1, g2, g3, -⟩ := held_list h1.heap h3 (b := lb2) (xs := ys) rfl
  exact list_Len wr Fl lb2 ys g3
theorem CN.len (h : CN w wr hb i i2 p2 c2 tb lb vs A8 c8) :
    Calls Try.prog 33 #[.pointer (some ⟨lb, 0, none⟩)] wr fun e w' => e = .returned (.int .i64 vs.length) ∧ wr = w' := by
  obtain ⟨⟨F, H, s, Fq, p, kind, L, sr, h1, h2, h3, -⟩, -, -⟩ := h
  obtain ⟨Fl, g1, g2, g3, -⟩ := held_list h1.heap h2 (b := lb) (xs := vs.map iV) rfl
  have := list_Len wr Fl lb _ g3
  rw [List.length_map] at this
  exact this
theorem CN.same2 {tb2 : Nat} {M : List Ent} {sm kd : Int} (h : CN w wr hb i i2 p2 ⟨kd, [V.null], none, some (tb2, M, sm), [], ⟨#[]⟩⟩ tb lb vs A8 c8) (hM : M.map Ent.kv = wantQ vs vs.length) (hs : sm ≤ 60) :
    Calls Try.prog 25 #[.pointer (some ⟨tb2, 0, none⟩), .slice A8 (wantQ vs vs.length).length c8] wr fun e w' => e = .returned (.bool true) ∧ Keeps (fun _ => False) wr w' := by
  obtain ⟨⟨F, H, s, Fq, p, kind, L, sr, h1, h2, h3, h4, h5, h6, -⟩, -, -⟩ := h
  obtain ⟨Ft, g0, -⟩ := held_tab2 h1.heap h3 (tb := tb2) (L := M) (sr := sm) rfl
  have hq := Qs.own h6.1
  rw [← hM] at hq
  have hl : M.length = (wantQ vs vs.length).length := by rw [← hM, List.length_map]
  rw [← hl]
  exact same16 wr Ft tb2 A8 c8 M sm g0 (by omega) hq
theorem CN.same (h : CN w wr hb i i2 p2 c2 tb lb vs A8 c8) :
    Calls Try.prog 25 #[.pointer (some ⟨tb, 0, none⟩), .slice A8 (wantQ vs vs.length).length c8] wr fun e w' => e = .returned (.bool true) ∧ Keeps (fun _ => False) wr w' := by
  obtain ⟨⟨F, H, s, Fq, p, kind, L, sr, h1, h2, h3, h4, h5, h6, -⟩, hm, -⟩ := h
  obtain ⟨Ft, g0, -⟩ := held_tab2 h1.heap h2 (tb := tb) (L := L) (sr := sr) rfl
  have hq := Qs.own h6.1
  rw [← h4] at hq
  have hl : L.length = (wantQ vs vs.length).length := by rw [← h4, List.length_map]
  rw [← hl]
  exact same16 wr Ft tb A8 c8 L sr g0 (by omega) hq
theorem CN.put {tb2 : Nat} {M : List Ent} {sm kd : Int} (h : CN w wr hb i i2 p2 ⟨kd, [V.null], none, some (tb2, M, sm), [], ⟨#[]⟩⟩ tb lb vs A8 c8) (hM : M.map Ent.kv = wantQ vs vs.length) (hs : sm ≤ 60) (key val : V) (h0 : key.k ≠ 0) (hz : key.t.size ≤ 140737488351232) :
    Calls Try.prog 30 #[.pointer (some ⟨tb2, 0, none⟩), key.val, val.val] wr fun e w' => e = .returned (.int .i64 0) ∧ wr.heap.size ≤ w'.heap.size ∧ w'.cell? ⟨p2, 3, none⟩ = some (.pointer (some ⟨tb2, 0, none⟩)) ∧ ∃ c2', CN w w' hb i i2 p2 c2' tb lb vs A8 c8 := by
  obtain ⟨⟨F, H, s, Fq, p, kind, L, sr, h1, h2, h3, h4, h5, h6, h7, h8⟩, hm, hn⟩ := h
  obtain ⟨Ft, g0, g1, g2, g3, g4, g5, g6⟩ := held_tab2 h1.heap h3 (tb := tb2) (L := M) (sr := sm) rfl
  have hl : M.length ≤ 60 := by
    have := congrArg List.length hM
    rw [List.length_map] at this
    have := wantQ_len vs vs.length
    omega
  refine (t_Put g0 (by omega) val h0 hz (by omega)).mono ?_
  rintro e w' ⟨F', rfl, r1, r2, r3⟩
  have hp := (putE_len M sm key val).2
  obtain ⟨F2, q1, q2, q3⟩ := g6 w' F' _ _ r2 r1 r3 (by omega)
  have hil := (List.getElem?_eq_some_iff.1 h3).1
  exact ⟨rfl, r2.size, r2.cell g1 g3, _, ⟨⟨F2, _, s, Fq, p, kind, L, sr, ⟨q1, h1.ok.turn h3 _, fun k h => (q3 k h).elim (h1.hF k) (fun h => Nat.le_trans h1.K.size h), h1.K.trans q2 (fun k _ h => h1.hF k h)⟩, by rw [List.getElem?_set_ne hn]; exact h2, by rw [List.getElem?_set_self hil], h4, h5, h6.keeps q2 h7.symm, h7.fresh q3 h8, h8.keeps q2⟩, hm, hn⟩⟩
end
end Go.Proofs.Ytfdfjogoiagnkaa
