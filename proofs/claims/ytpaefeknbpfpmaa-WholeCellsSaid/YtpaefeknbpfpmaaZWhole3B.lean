/- dreytop.WholeCells: how all lies within the walk, and its calls. -/
import Derived.Test.YtpaefeknbpfpmaaZWhole3
import Derived.Test.YtpaefeknbpfpmaaZOpenB
import Derived.Test.YtpaefeknbpfpmaaZKeeps6
namespace Go.Proofs.Ytpaefeknbpfpmaa
open Go.RowKit
set_option maxRecDepth 100000

/-- How all lies within WholeCells. -/
structure WS (w wr : World) (hb it pt tb vv : Nat) (L : List Ent) (sr : Int) (ns : List Nat) (P : Nat → Prop) (A : Option Addr) (c : Nat) : Prop where
  lie : ∃ F H s Fc, Hd w hb F H s wr ∧ W3 H it pt tb L sr ns ∧ (s.live = 1 + ns.length ∧ s.limit = 200 ∧ s.freed = 0 ∧ s.runs = 0) ∧
    Row wr Fc 30 3 (.slice A ns.length c) ns.length (flat (ns.map fun n => rV (n : Nat))) ∧ (∀ k, Fc k → w.heap.size ≤ k) ∧ Apart F Fc ∧ ¬ F vv ∧ ¬ Fc vv ∧ In Fc wr
  tab : T3 L ns P
  ser : 0 ≤ sr ∧ sr ≤ 1 + ns.length
  var : IsVar wr vv (rV (it : Nat))
  vge : w.heap.size ≤ vv
/-- A box more, in the table. -/
theorem WS.put {w w11 : World} {hb it pt tb vv : Nat} {L : List Ent} {sr : Int} {ns : List Nat} {A11 : Option Addr} {c11 n pn : Nat} {F2 : Nat → Prop} {H H2 : Hp} {s2 : HSt} {Fc : Nat → Prop}
    (hd : Hd w hb F2 H2 s2 w11) (h3 : W3 H it pt tb L sr ns) (hn : NewAt H H2 n (pn, boxCl (iV ns.length))) (hs : s2.live = 2 + ns.length ∧ s2.limit = 200 ∧ s2.freed = 0 ∧ s2.runs = 0)
    (hr : Row w11 Fc 30 3 (.slice A11 (ns.length + 1) c11) (ns.length + 1) (flat ((ns ++ [n]).map fun n => rV (n : Nat)))) (hFc : ∀ k, Fc k → w.heap.size ≤ k) (hap : Apart F2 Fc) (hv1 : ¬ F2 vv) (hv2 : ¬ Fc vv) (hin : In Fc w11)
    (ht : T3 L ns (fun _ => True)) (hser : 0 ≤ sr ∧ sr ≤ 1 + ns.length) (hvar : IsVar w11 vv (rV (it : Nat))) (hvge : w.heap.size ≤ vv) (hlen : ns.length ≤ 60) (W : World) (hk : Keeps (fun _ => False) w11 W) :
    Calls Try.prog 49 #[.pointer (some ⟨tb, 0, none⟩), (key3 (ns ++ [n]) ns.length).val, (val3 (ns ++ [n]) ns.length).val] W fun e w' => ∃ L' sr', e = .returned (.int .i64 0) ∧ WS w w' hb it pt tb vv L' sr' (ns ++ [n]) (fun _ => True) A11 c11 ∧ Keeps F2 W w' := by
  have hit2 : it ≠ n := fun e => by have := hn.was; rw [← e, h3.tab] at this; cases this
  have hnn : n ∉ ns := fun h => by
    obtain ⟨j, hj, e⟩ := mem_getD.1 h
    obtain ⟨p, e2⟩ := h3.box j hj
    have := hn.was
    rw [← e, e2] at this; cases this
  have hnd : (ns ++ [n]).Nodup := List.nodup_append.2 ⟨h3.nd, by simp, fun a ha b hb e => hnn (by rw [← List.mem_singleton.1 hb, ← e]; exact ha)⟩
  obtain ⟨hnew, hT⟩ := ht.put hnd (sr + 1)
  have hat : atH H2 it = some (pt, tableCl tb L sr) := (hn.else_ it hit2).trans h3.tab
  have hil : it < H2.length := (List.getElem?_eq_some_iff.1 (atH_some.1 hat)).1
  obtain ⟨Ft, h1, hsub, hput⟩ := held_tab (hd.heap.calm hk) (atH_some.1 hat) (tb := tb) (L := L) (sr := sr) rfl
  have hLl := ht.cnt
  have hkz : (key3 (ns ++ [n]) ns.length).t.size ≤ 140737488351232 := by unfold key3; split <;> exact Nat.zero_le _
  have hk0 : (key3 (ns ++ [n]) ns.length).k ≠ 0 := by unfold key3; split <;> simp [rV, iV]
  refine (t_Put_new h1 (by omega) (val3 (ns ++ [n]) ns.length) hk0 hkz hnew (by omega)).mono ?_
  rintro e w' ⟨F', rfl, g1, g2, g3⟩
  obtain ⟨F3, r1, r2, r3⟩ := hput w' F' _ _ g2 g1 g3 (by omega)
  have hkk : Keeps (fun k => w.heap.size ≤ k) w W := hd.K.trans hk (fun _ _ h => h.elim)
  have hvv := blk_lt (hvar.keeps hk (fun h => h))
  have hl1 : (ns ++ [n]).length = ns.length + 1 := by simp
  refine ⟨L ++ [⟨key3 (ns ++ [n]) ns.length, val3 (ns ++ [n]) ns.length, sr + 1, false⟩], sr + 1, rfl, ⟨⟨F3, _, s2, Fc, ⟨r1, hd.ok.turn (atH_some.1 hat) _, fun k h => (r3 k h).elim (hd.hF k) (fun h => Nat.le_trans hkk.size h), hkk.trans r2 (fun k _ h => hd.hF k h)⟩, ⟨?_, fun j hj => ?_, hnd, ?_, fun q h1 h2 => ?_⟩, ?_, ?_, hFc, hap.fresh r3 (hin.keeps hk), fun h => (r3 vv h).elim hv1 (fun h => absurd hvv (Nat.not_lt_of_le h)), hv2, (hin.keeps hk).keeps r2⟩, hT, by rw [hl1]; omega, (hvar.keeps hk (fun h => h)).keeps r2 hv1, hvge⟩, r2⟩
  · rw [atH_set _ _ _ hil, if_pos rfl]; rfl
  · rw [hl1] at hj
    by_cases e : j = ns.length
    · subst e
      have e2 : (ns ++ [n]).getD ns.length 0 = n := by simp [List.getD_eq_getElem?_getD]
      rw [e2, atH_set _ _ _ hil, if_neg hit2]
      exact ⟨pn, hn.here⟩
    · rw [getD_app (by omega)]
      obtain ⟨p, e2⟩ := h3.box j (by omega)
      have hm : ns.getD j 0 ∈ ns := mem_getD.2 ⟨j, by omega, rfl⟩
      rw [atH_set _ _ _ hil, if_neg (fun (e3 : it = ns.getD j 0) => h3.off (e3 ▸ hm)), hn.else_ (ns.getD j 0) (fun (e3 : ns.getD j 0 = n) => hnn (e3 ▸ hm))]
      exact ⟨p, e2⟩
  · intro h
    rcases List.mem_append.1 h with h | h
    · exact h3.off h
    · exact hit2 (List.mem_singleton.1 h)
  · rw [List.mem_append, List.mem_singleton] at h2
    rw [atH_set _ _ _ hil, if_neg (fun e => h1 e.symm), hn.else_ q (fun e => h2 (.inr e))]
    exact h3.else_ q h1 (fun e => h2 (.inl e))
  · rw [hl1]; exact ⟨by rw [hs.1]; omega, hs.2⟩
  · rw [hl1]; exact (hr.keeps hk (Apart.no _)).keeps r2 hap.symm
/-- A key goes. -/
theorem WS.del {w W : World} {hb it pt tb vv : Nat} {L : List Ent} {sr : Int} {ns : List Nat} {P : Nat → Prop} {A : Option Addr} {c j : Nat} (h : WS w W hb it pt tb vv L sr ns P A c) (hj : j < ns.length) (hP : P j) (hlen : ns.length ≤ 60) :
    Calls Try.prog 54 #[.pointer (some ⟨tb, 0, none⟩), (key3 ns j).val] W fun e w' => ∃ L', e = .returned (.tuple #[(val3 ns j).val, .int .i64 0]) ∧ WS w w' hb it pt tb vv L' sr ns (fun i => P i ∧ i ≠ j) A c := by
  obtain ⟨⟨F, H, s, Fc, hd, h3, hs, hr, hFc, hap, hv1, hv2, hin⟩, ht, hser, hvar, hvge⟩ := h
  obtain ⟨x, hx, hk, hv⟩ := ht.all j hj hP
  have hil : it < H.length := (List.getElem?_eq_some_iff.1 (atH_some.1 h3.tab)).1
  obtain ⟨Ft, h1, hsub, hput⟩ := held_tab hd.heap (atH_some.1 h3.tab) (tb := tb) (L := L) (sr := sr) rfl
  rw [← hk, ← hv]
  refine (t_Delete_some h1 (by omega) hx).mono ?_
  rintro e w' ⟨rfl, g1, g2⟩
  obtain ⟨F3, r1, r2, r3⟩ := hput w' Ft _ _ g2 g1 (Fresh.refl _ _) (by omega)
  have hT := ht.del h3.nd hj
  rw [← hk] at hT
  have hvv := blk_lt hvar
  refine ⟨delL L x.key, rfl, ⟨⟨F3, _, s, Fc, ⟨r1, hd.ok.turn (atH_some.1 h3.tab) _, fun k h => (r3 k h).elim (hd.hF k) (fun h => Nat.le_trans hd.K.size h), hd.K.trans r2 (fun k _ h => hd.hF k h)⟩, ⟨?_, fun i hi => ?_, h3.nd, h3.off, fun q q1 q2 => ?_⟩, hs, hr.keeps r2 hap.symm, hFc, hap.fresh r3 hin, fun h => (r3 vv h).elim hv1 (fun h => absurd hvv (Nat.not_lt_of_le h)), hv2, hin.keeps r2⟩, hT, hser, hvar.keeps r2 hv1, hvge⟩⟩
  · rw [atH_set _ _ _ hil, if_pos rfl]; rfl
  · have hm : ns.getD i 0 ∈ ns := mem_getD.2 ⟨i, hi, rfl⟩
    rw [atH_set _ _ _ hil, if_neg (fun (e3 : it = ns.getD i 0) => h3.off (e3 ▸ hm))]
    exact h3.box i hi
  · rw [atH_set _ _ _ hil, if_neg (fun e => q1 e.symm)]
    exact h3.else_ q q1 q2
theorem WS.congr {w wr : World} {hb it pt tb vv : Nat} {L : List Ent} {sr : Int} {ns : List Nat} {P Q : Nat → Prop} {A : Option Addr} {c : Nat} (h : WS w wr hb it pt tb vv L sr ns P A c) (hPQ : ∀ j, j < ns.length → (P j ↔ Q j)) : WS w wr hb it pt tb vv L sr ns Q A c :=
  ⟨h.lie, ⟨fun x hx => by obtain ⟨j, hj, hp, r⟩ := h.tab.rows x hx; exact ⟨j, hj, (hPQ j hj).1 hp, r⟩, fun j hj hq => h.tab.all j hj ((hPQ j hj).2 hq), h.tab.cnt⟩, h.ser, h.var, h.vge⟩
theorem WS.calm {w wr W : World} {hb it pt tb vv : Nat} {L : List Ent} {sr : Int} {ns : List Nat} {P : Nat → Prop} {A : Option Addr} {c : Nat} (h : WS w wr hb it pt tb vv L sr ns P A c) (hk : Keeps (fun _ => False) wr W) : WS w W hb it pt tb vv L sr ns P A c := by
  obtain ⟨⟨F, H, s, Fc, hd, h3, hs, hr, hFc, hap, hv1, hv2, hin⟩, ht, hser, hvar, hvge⟩ := h
  exact ⟨⟨F, H, s, Fc, hd.calm hk, h3, hs, hr.keeps hk (Apart.no _), hFc, hap, hv1, hv2, hin.keeps hk⟩, ht, hser, hvar.keeps hk (fun h => h), hvge⟩
/-- How all lies behind the collecting. -/
structure WE (w wr : World) (hb : Nat) (ns : List Nat) (kp : List Bool) (A : Option Addr) (c : Nat) : Prop where
  lie : ∃ F H s Fc, Hd w hb F H s wr ∧ s.live = 1 + kp.length - ((kp.countP (! ·) : Nat) : Int) ∧
    Row wr Fc 30 3 (.slice A ns.length c) ns.length (flat (ns.map fun n => rV (n : Nat))) ∧
    (∀ j, j < ns.length → kp[j]? = some true → ∃ p, H[ns.getD j 0]? = some (some (p, boxCl (iV j)))) ∧ (∀ j, j < ns.length → ¬ kp[j]? = some true → H[ns.getD j 0]? = some none)
  len : kp.length = ns.length
theorem WE.calm {w wr W : World} {hb : Nat} {ns : List Nat} {kp : List Bool} {A : Option Addr} {c : Nat} (h : WE w wr hb ns kp A c) (hk : Keeps (fun _ => False) wr W) : WE w W hb ns kp A c := by
  obtain ⟨⟨F, H, s, Fc, hd, hs, hr, h1, h2⟩, hl⟩ := h
  exact ⟨⟨F, H, s, Fc, hd.calm hk, hs, hr.keeps hk (Apart.no _), h1, h2⟩, hl⟩
theorem WE.live {w wr : World} {hb : Nat} {ns : List Nat} {kp : List Bool} {A : Option Addr} {c : Nat} (h : WE w wr hb ns kp A c) :
    Calls Try.prog 30 #[.pointer (some ⟨hb, 0, none⟩)] wr fun e w' => e = .returned (.int .i64 (1 + kp.length - ((kp.countP (! ·) : Nat) : Int))) ∧ wr = w' := by
  obtain ⟨⟨F, H, s, Fc, hd, hs, hr, h1, h2⟩, hl⟩ := h
  rw [← hs]
  exact heap_Live hd.heap
theorem WE.of_ok {w wr : World} {hb : Nat} {ns : List Nat} {kp : List Bool} {A : Option Addr} {c j : Nat} (h : WE w wr hb ns kp A c) (hj : j < ns.length) (hk : kp[j]? = some true) :
    Calls Try.prog 32 #[.pointer (some ⟨hb, 0, none⟩), V.val ⟨4, (ns.getD j 0 : Nat), ⟨#[]⟩⟩, .int .i64 10] wr fun e w' => ∃ p : Nat, e = .returned (.tuple #[.pointer (some ⟨p, 0, none⟩), .int .i64 0]) ∧ Keeps (fun _ => False) wr w' := by
  obtain ⟨⟨F, H, s, Fc, hd, hs, hr, h1, h2⟩, hl⟩ := h
  obtain ⟨p, hp⟩ := h1 j hj hk
  exact (heap_Of_ok hd.heap hp 10 ⟨#[]⟩ (.inr rfl)).mono fun e w' h => ⟨p, h⟩
theorem WE.of_no {w wr : World} {hb : Nat} {ns : List Nat} {kp : List Bool} {A : Option Addr} {c j : Nat} (h : WE w wr hb ns kp A c) (hj : j < ns.length) (hk : kp[j]? = some false) :
    Calls Try.prog 32 #[.pointer (some ⟨hb, 0, none⟩), V.val ⟨4, (ns.getD j 0 : Nat), ⟨#[]⟩⟩, .int .i64 10] wr fun e w' => e = .returned (.tuple #[.pointer none, .int .i64 41]) ∧ Keeps (fun _ => False) wr w' := by
  obtain ⟨⟨F, H, s, Fc, hd, hs, hr, h1, h2⟩, hl⟩ := h
  exact heap_Of_freed hd.heap 10 ⟨#[]⟩ (h2 j hj (by rw [hk]; simp))
theorem WS.coll {w wq W : World} {hb it pt tb vv : Nat} {L : List Ent} {sr : Int} {ns : List Nat} {kp : List Bool} {A A' : Option Addr} {c : Nat} (h : WS w wq hb it pt tb vv L sr ns (fun j => kp[j]? = some true) A c) (hl : kp.length = ns.length) (hk : Keeps (fun _ => False) wq W) (hi : Ints W A' [(it : Int)]) :
    Calls Try.prog 55 #[.pointer (some ⟨hb, 0, none⟩), .slice A' 1 1] W fun e w' => e = .returned (.int .i64 ((kp.countP (! ·) : Nat) : Int)) ∧ WE w w' hb ns kp A c := by
  obtain ⟨⟨F, H, s, Fc, hd, h3, hs, hr, hFc, hap, hv1, hv2, hin⟩, ht, hser, hvar, hvge⟩ := h
  have hd2 := hd.calm hk
  refine (heap_collect W F hb H s A' 1 [(it : Int)] hd2.heap hd2.ok hi (by simp) (by rw [hs.2.2.1, hs.2.2.2]; decide)).mono ?_
  rintro e w' ⟨F', H2, s2, fr, ms, rfl, hc, hh, hK, hF⟩
  obtain ⟨h4, h5, h6⟩ := h3.coll ht hc
  have hg := gone_count h3.nd kp hl hc.nodup h4
  refine ⟨ret_int (by rw [hg]), ⟨F', H2, s2, Fc, hd2.coll hc hh hK hF, ?_, (hr.keeps hk (Apart.no _)).keeps hK hap.symm, h5, h6⟩, hl⟩
  rw [hc.live, hs.1, hg, hl]
end Go.Proofs.Ytpaefeknbpfpmaa
