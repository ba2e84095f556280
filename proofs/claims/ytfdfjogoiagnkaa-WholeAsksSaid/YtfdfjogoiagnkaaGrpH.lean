/- Texts that belong together: AskA AskB AskC AskD AskE AskF AskG AskH AskI AskJ AskK. -/
import Derived.Test.YtfdfjogoiagnkaaGrpG
import Derived.Test.YtfdfjogoiagnkaaZLawDeep
import Derived.Test.YtfdfjogoiagnkaaGrpE
set_option linter.unusedSimpArgs false
set_option linter.unusedVariables false
/- dreylaw16.WholeAsks: the plain law: chains of tables. -/
namespace Go.Proofs.Ytfdfjogoiagnkaa
open Go.RowKit
set_option maxRecDepth 100000

/-- A table that has nothing, and hands on to z. -/
def midCl (tb : Nat) (z : Nat) : Cl := ⟨2, [rV (z : Nat)], none, some (tb, [], 0), [], ⟨#[]⟩⟩
/-- From table a to table z, by n steps. -/
inductive Seg (H : Hp) (a : Nat) : Nat → Nat → Prop where
  | nil : Seg H a a 0
  | more {m z n p tb : Nat} (h : Seg H a m n) (hm : H[m]? = some (some (p, midCl tb z))) : Seg H a z (n + 1)
section
variable {H H' : Hp} {a z n i : Nat}
theorem Seg.mono (hH : ∀ (j p tb x : Nat), H[j]? = some (some (p, midCl tb x)) → H'[j]? = some (some (p, midCl tb x))) (h : Seg H a z n) : Seg H' a z n := by
  induction h with
  | nil => exact .nil
  | more _ hm ih => exact .more ih (hH _ _ _ _ hm)
theorem Seg.old {y : Nat × Cl} (h : Seg H a z n) (hn : NewAt H H' i y) : Seg H' a z n := h.mono (fun _ _ _ _ e => hn.old e)
/-- A cell that is none of these is turned. -/
theorem Seg.set {p : Nat} {c : Cl} {y : Option (Nat × Cl)} (h : Seg H a z n) (hi : H[i]? = some (some (p, c))) (hc : ∀ tb x, c ≠ midCl tb x) : Seg (H.set i y) a z n := h.mono (fun j q tb x e => by
  have hne : i ≠ j := fun e1 => by
    subst e1; rw [hi] at e
    simp only [Option.some.injEq, Prod.mk.injEq] at e
    exact hc tb x e.2
  rw [List.getElem?_set_ne hne]; exact e)
theorem Seg.dels {ls : List (List Ent)} (h : Seg H a z n) (hd : Dels H (rV (z : Nat)) ls) : Dels H (rV (a : Nat)) (List.replicate n [] ++ ls) := by
  induction h generalizing ls with
  | nil => exact hd
  | more _ hm ih =>
    have h1 := ih (.cons hm rfl rfl (by decide) rfl hd)
    rw [List.replicate_succ', List.append_assoc]
    exact h1
theorem Seg.head (h : Seg H a z n) (hn : n ≠ 0) : ∃ p tb y m, H[a]? = some (some (p, midCl tb y)) ∧ Seg H y z m ∧ n = m + 1 := by
  induction h with
  | nil => exact absurd rfl hn
  | @more m z n p tb h hm ih =>
    cases n with
    | zero => cases h; exact ⟨p, tb, z, 0, hm, .nil, rfl⟩
    | succ k =>
      obtain ⟨p1, tb1, y, m1, h1, h2, h3⟩ := ih (by omega)
      exact ⟨p1, tb1, y, m1 + 1, h1, .more h2 hm, by omega⟩
end
theorem tabR_pass (n : Nat) (ls : List (List Ent)) (key : V) : tabR (List.replicate n [] ++ ls) key = tabR ls key := by
  induction n with
  | zero => rfl
  | succ n ih => rw [List.replicate_succ]; exact ih
theorem midCl_ne_null (tb' : Nat) (L : List Ent) (sr : Int) (tb z : Nat) : (⟨2, [V.null], none, some (tb', L, sr), [], ⟨#[]⟩⟩ : Cl) ≠ midCl tb z := fun e => by
  have h := congrArg Cl.vals e
  simp [midCl, V.null, rV] at h
theorem midCl_ne_kind {c : Cl} (h : c.kind ≠ 2) (tb z : Nat) : c ≠ midCl tb z := fun e => h (by rw [e]; rfl)
end Go.Proofs.Ytfdfjogoiagnkaa
/- dreylaw16.WholeAsks: the states of its loop. -/
namespace Go.Proofs.Ytfdfjogoiagnkaa
open Go.RowKit
set_option maxRecDepth 100000

/-- The cell of what is found. -/
def funcCl : Cl := ⟨5, [], none, none, [], ⟨#[]⟩⟩
/-- A class whose one member is f. -/
def Named (H : Hp) (key : V) (f : Nat) (x : V) : Prop := ∃ (c p tb : Nat) (e : Ent) (sr : Int) (b : V), x = rV (c : Nat) ∧ H[c]? = some (some (p, classCl tb [e] sr b)) ∧ e.kv = (key, rV (f : Nat)) ∧ sr ≤ 1
theorem Named.old {H H' : Hp} {key : V} {f i : Nat} {x : V} {y : Nat × Cl} (h : Named H key f x) (hn : NewAt H H' i y) : Named H' key f x := by
  obtain ⟨c, p, tb, e, sr, b, h1, h2, h3⟩ := h
  exact ⟨c, p, tb, e, sr, b, h1, hn.old h2, h3⟩
/-- n tables behind the first, the last one empty, and n classes. -/
structure AskI (H : Hp) (t f n z : Nat) (x : V) (l : List V) (key : V) : Prop where
  fn : ∃ pf, H[f]? = some (some (pf, funcCl))
  seg : Seg H t z n
  end_ : ∃ p tb, H[z]? = some (some (p, tableCl tb [] 0))
  ch : Chain H x l
theorem AskI.old {H H' : Hp} {t f n z i : Nat} {x : V} {l : List V} {key : V} {y : Nat × Cl} (h : AskI H t f n z x l key) (hn : NewAt H H' i y) : AskI H' t f n z x l key := by
  obtain ⟨⟨pf, h1⟩, h2, ⟨p, tb, h3⟩, h4⟩ := h
  exact ⟨⟨pf, hn.old h1⟩, h2.old hn, ⟨p, tb, hn.old h3⟩, h4.old hn⟩
theorem Chain.set {H : Hp} {i p : Nat} {c : Cl} {y : Nat × Cl} {x : V} {l : List V} (h : Chain H x l) (hi : H[i]? = some (some (p, c))) (hk : c.kind ≠ 3) : Chain (H.set i (some y)) x l := by
  induction h with
  | nil h => exact .nil h
  | @cons j q d b bs l hj hkj hv _ ih =>
    have hne : i ≠ j := fun e => by
      subst e; rw [hi] at hj
      simp only [Option.some.injEq, Prod.mk.injEq] at hj
      exact hk (hj.2 ▸ hkj)
    exact .cons (by rw [List.getElem?_set_ne hne]; exact hj) hkj hv ih
theorem set_other {H : Hp} {i j p q : Nat} {c d : Cl} {y : Option (Nat × Cl)} (hi : H[i]? = some (some (p, c))) (hj : H[j]? = some (some (q, d))) (hk : c.kind ≠ d.kind) : (H.set i y)[j]? = some (some (q, d)) := by
  have hne : i ≠ j := fun e => by
    subst e; rw [hi] at hj
    simp only [Option.some.injEq, Prod.mk.injEq] at hj
    exact hk (by rw [hj.2])
  rw [List.getElem?_set_ne hne]; exact hj
/-- The last table hands on to a new one. -/
theorem AskI.link {H : Hp} {t f n z d p tb p' tb' : Nat} {x : V} {l : List V} {key : V} (h : AskI H t f n z x l key) (hz : H[z]? = some (some (p, tableCl tb [] 0))) (hd : H[d]? = some (some (p', tableCl tb' [] 0))) (hne : d ≠ z) :
    AskI (H.set z (some (p, midCl tb d))) t f (n + 1) d x l key := by
  obtain ⟨⟨pf, h1⟩, h2, -, h4⟩ := h
  have hil := (List.getElem?_eq_some_iff.1 hz).1
  exact ⟨⟨pf, set_other hz h1 (by simp [tableCl, funcCl])⟩, .more (h2.set hz (midCl_ne_null tb [] 0)) (List.getElem?_set_self hil), ⟨p', tb', by rw [List.getElem?_set_ne (Ne.symm hne)]; exact hd⟩, h4.set hz (by simp [tableCl])⟩
end Go.Proofs.Ytfdfjogoiagnkaa
/- dreylaw16.WholeAsks: the states of its loop, with the heap. -/
namespace Go.Proofs.Ytfdfjogoiagnkaa
open Go.RowKit
set_option maxRecDepth 100000

/-- Variables beside the heap. -/
def Vrs (F : Nat → Prop) (w : World) (vs : List (Nat × V)) : Prop := ∀ v ∈ vs, Vr F w v.1 v.2
theorem Vrs.calm {F : Nat → Prop} {w w1 : World} {vs : List (Nat × V)} (h : Vrs F w vs) (hk : Keeps (fun _ => False) w w1) : Vrs F w1 vs := fun v hv => (h v hv).calm hk
theorem Vrs.step {F F' : Nat → Prop} {w w1 : World} {vs : List (Nat × V)} (h : Vrs F w vs) (hk : Keeps F w w1) (hf : Fresh F F' w) : Vrs F' w1 vs := fun v hv => (h v hv).step hk hf
theorem Vrs.other {F S : Nat → Prop} {w w1 : World} {vs : List (Nat × V)} (h : Vrs F w vs) (hk : Keeps S w w1) (hn : ∀ v ∈ vs, ¬ S v.1) : Vrs F w1 vs := fun v hv => ⟨(h v hv).var.keeps hk (hn v hv), (h v hv).off⟩
structure AQ (w wr : World) (hb vl vc : Nat) (vs : List (Nat × V)) (t f n nc lv z : Nat) (y x u key : V) (D : Hp → Prop) : Prop where
  lie : ∃ F H s l, Hd w hb F H s wr ∧ s.live = lv ∧ s.limit = 500 ∧ AskI H t f n z x l key ∧ l.length = nc ∧ Vr F wr vl y ∧ Vr F wr vc u ∧ Vrs F wr vs ∧ D H
  vlge : w.heap.size ≤ vl
  vcge : w.heap.size ≤ vc
  ne : vl ≠ vc
  off : ∀ v ∈ vs, v.1 ≠ vl ∧ v.1 ≠ vc
section
variable {w wr wj : World} {hb vl vc t f n nc lv z : Nat} {vs : List (Nat × V)} {y x u key : V} {D : Hp → Prop}
theorem AQ.calm (h : AQ w wr hb vl vc vs t f n nc lv z y x u key D) (hk : Keeps (fun _ => False) wr wj) : AQ w wj hb vl vc vs t f n nc lv z y x u key D := by
  obtain ⟨⟨F, H, s, l, h1, h2, h3, h4, h5, h6, h7, hx, h8⟩, h9, h10, h11, h12⟩ := h
  exact ⟨⟨F, H, s, l, h1.calm hk, h2, h3, h4, h5, h6.calm hk, h7.calm hk, hx.calm hk, h8⟩, h9, h10, h11, h12⟩
theorem AQ.last (h : AQ w wr hb vl vc vs t f n nc lv z y x u key D) : IsVar wr vl y := by
  obtain ⟨⟨F, H, s, l, h1, h2, h3, h4, h5, h6, h7, hx, h8⟩, h9⟩ := h; exact h6.var
theorem AQ.cls (h : AQ w wr hb vl vc vs t f n nc lv z y x u key D) : IsVar wr vc u := by
  obtain ⟨⟨F, H, s, l, h1, h2, h3, h4, h5, h6, h7, hx, h8⟩, h9⟩ := h; exact h7.var
theorem AQ.var {i : Nat} {v : V} (h : AQ w wr hb vl vc vs t f n nc lv z y x u key D) (hv : (i, v) ∈ vs) : IsVar wr i v := by
  obtain ⟨⟨F, H, s, l, h1, h2, h3, h4, h5, h6, h7, hx, h8⟩, h9⟩ := h; exact (hx _ hv).var
theorem AQ.K (h : AQ w wr hb vl vc vs t f n nc lv z y x u key D) : Keeps (fun k => w.heap.size ≤ k) w wr := by
  obtain ⟨⟨F, H, s, l, h1, -⟩, h9⟩ := h; exact h1.K
/-- A new variable. -/
theorem AQ.newv (h : AQ w wr hb vl vc vs t f n nc lv z y x u key D) (v : V) : AQ w (wr.alloc (.cells #[.int .i64 v.k, .int .i64 v.n, .string v.t] 26)) hb vl vc ((wr.heap.size, v) :: vs) t f n nc lv z y x u key D := by
  have hl := blk_lt h.last
  have hc := blk_lt h.cls
  obtain ⟨⟨F, H, s, l, h1, h2, h3, h4, h5, h6, h7, hx, h8⟩, h9, h10, h11, h12⟩ := h
  have k2 := (Keeps.refl (fun _ => False) wr).alloc (.cells #[.int .i64 v.k, .int .i64 v.n, .string v.t] 26)
  refine ⟨⟨F, H, s, l, h1.calm k2, h2, h3, h4, h5, h6.calm k2, h7.calm k2, fun u hu => ?_, h8⟩, h9, h10, h11, fun u hu => ?_⟩
  · rcases List.mem_cons.1 hu with rfl | hu
    · exact Vr.new v h1.heap.inw
    · exact (hx u hu).calm k2
  · rcases List.mem_cons.1 hu with rfl | hu
    · exact ⟨fun e => by simp only at e; omega, fun e => by simp only at e; omega⟩
    · exact h12 u hu
theorem AQ.newv3 (h : AQ w wr hb vl vc vs t f n nc lv z y x u key D) (k m : Int) (s : ByteArray) : AQ w (wr.alloc (.cells #[.int .i64 k, .int .i64 m, .string s] 26)) hb vl vc ((wr.heap.size, ⟨k, m, s⟩) :: vs) t f n nc lv z y x u key D := h.newv ⟨k, m, s⟩
theorem AQ.drop {v : Nat × V} (h : AQ w wr hb vl vc (v :: vs) t f n nc lv z y x u key D) : AQ w wr hb vl vc vs t f n nc lv z y x u key D := by
  obtain ⟨⟨F, H, s, l, h1, h2, h3, h4, h5, h6, h7, hx, h8⟩, h9, h10, h11, h12⟩ := h
  exact ⟨⟨F, H, s, l, h1, h2, h3, h4, h5, h6, h7, fun u hu => hx u (List.mem_cons_of_mem _ hu), h8⟩, h9, h10, h11, fun u hu => h12 u (List.mem_cons_of_mem _ hu)⟩
theorem AQ.mono {E : Hp → Prop} (h : AQ w wr hb vl vc vs t f n nc lv z y x u key D) (hE : ∀ H, D H → E H) : AQ w wr hb vl vc vs t f n nc lv z y x u key E := by
  obtain ⟨⟨F, H, s, l, h1, h2, h3, h4, h5, h6, h7, hx, h8⟩, h9, h10, h11, h12⟩ := h
  exact ⟨⟨F, H, s, l, h1, h2, h3, h4, h5, h6, h7, hx, hE _ h8⟩, h9, h10, h11, h12⟩
/-- NewTable(nil). -/
theorem AQ.table (h : AQ w wr hb vl vc vs t f n nc lv z y x u key D) (hl : lv < 500) (hD : ∀ H H' i c, NewAt H H' i c → D H → D H') :
    Calls Try.prog 36 #[.pointer (some ⟨hb, 0, none⟩), .pointer none] wr fun e w' => ∃ d : Nat, e = .returned (.tuple #[V.val ⟨4, (d : Nat), ⟨#[]⟩⟩, .int .i64 0]) ∧ AQ w w' hb vl vc vs t f n nc (lv + 1) z y x u key (fun H => D H ∧ d ≠ z ∧ ∃ p tb, H[d]? = some (some (p, tableCl tb [] 0))) := by
  obtain ⟨⟨F, H, s, l, h1, h2, h3, h4, h5, h6, h7, hx, h8⟩, h9, h10, h11, h12⟩ := h
  refine (heap_NewTable_nil _ _ _ _ _ h1.heap h1.ok (by rw [h2, h3]; omega)).mono ?_
  rintro e w' ⟨d, p, tb, F', H', s', rfl, hM⟩
  obtain ⟨pz, tz, hz⟩ := h4.end_
  exact ⟨d, rfl, ⟨⟨F', H', s', l, h1.made hM (fun k h => h.elim), by rw [hM.live, h2]; omega, by rw [hM.limit, h3], h4.old hM.new, h5, h6.step hM.keeps hM.fr, h7.step hM.keeps hM.fr, hx.step hM.keeps hM.fr, hD _ _ _ _ hM.new h8, (hM.new.ne hz).symm, p, tb, hM.new.at_⟩, h9, h10, h11, h12⟩⟩
/-- SetDelegate(last, d). -/
theorem AQ.link {d : Nat} (h : AQ w wr hb vl vc vs t f n nc lv z y x u key (fun H => D H ∧ d ≠ z ∧ ∃ p tb, H[d]? = some (some (p, tableCl tb [] 0)))) (hD : ∀ H p c q, H[z]? = some (some (p, c)) → c.kind = 2 → D H → D (H.set z (some q))) :
    Calls Try.prog 37 #[.pointer (some ⟨hb, 0, none⟩), V.val ⟨4, z, ⟨#[]⟩⟩, V.val ⟨4, (d : Nat), ⟨#[]⟩⟩] wr fun e w' => e = .returned (.int .i64 0) ∧ AQ w w' hb vl vc vs t f (n + 1) nc lv d y x u key D := by
  obtain ⟨⟨F, H, s, l, h1, h2, h3, h4, h5, h6, h7, hx, h8, hne, pd, td, hd⟩, h9, h10, h11, h12⟩ := h
  obtain ⟨pz, tz, hz⟩ := h4.end_
  refine (slot_SetDelegate_ok h1.heap hz rfl (b := V.null) (bs := []) rfl (dt := rV (d : Nat)) (l := [rV (d : Nat)]) (.cons hd rfl rfl (.nil rfl)) (by simp) (by simp [rV]; omega)).mono ?_
  rintro e w' ⟨F', rfl, g1, g2, g3⟩
  exact ⟨rfl, ⟨⟨F', _, s, l, ⟨g1, h1.ok.turn hz _, fun k hk => (g3 k hk).elim (h1.hF k) (fun h => Nat.le_trans h1.K.size h), h1.K.trans g2 (fun k _ h => h1.hF k h)⟩, h2, h3, h4.link hz hd hne, h5, h6.step g2 g3, h7.step g2 g3, hx.step g2 g3, hD _ _ _ _ hz rfl h8⟩, h9, h10, h11, h12⟩⟩
end
end Go.Proofs.Ytfdfjogoiagnkaa
/- dreylaw16.WholeAsks: the states of its loop: classes, stores. -/
namespace Go.Proofs.Ytfdfjogoiagnkaa
open Go.RowKit
set_option maxRecDepth 100000

theorem clone_one (e : Ent) : ∃ e', (cloneE [e]).1 = [e'] ∧ e'.kv = e.kv ∧ (cloneE [e]).2 ≤ 1 := by
  have h1 := cloneE_kv [e] (by simp)
  have h2 := (cloneE_len [e]).2
  cases hc : (cloneE [e]).1 with
  | nil => rw [hc] at h1; simp at h1
  | cons e' r =>
    rw [hc] at h1
    simp only [List.map_cons, List.map_nil, List.cons.injEq, List.map_eq_nil_iff] at h1
    exact ⟨e', by rw [h1.2], h1.1, by simpa using h2⟩
section
variable {w wr wj : World} {hb vl vc t f n nc lv z : Nat} {vs : List (Nat × V)} {y x u key : V} {D : Hp → Prop}
theorem AskI.cls {H : Hp} {l l' : List V} {x' : V} (h : AskI H t f n z x l key) (hc : Chain H x' l') : AskI H t f n z x' l' key := ⟨h.fn, h.seg, h.end_, hc⟩
theorem AQ.setl (h : AQ w wr hb vl vc vs t f n nc lv z y x u key D) (v : V) : AQ w (((wr.setCell ⟨vl, 0, none⟩ (.int .i64 v.k)).setCell ⟨vl, 1, none⟩ (.int .i64 v.n)).setCell ⟨vl, 2, none⟩ (.string v.t)) hb vl vc vs t f n nc lv z v x u key D := by
  obtain ⟨⟨F, H, s, l, h1, h2, h3, h4, h5, h6, h7, hx, h8⟩, h9, h10, h11, h12⟩ := h
  have kv := (Keeps.refl (fun k => k = vl) wr).var (r := vl) (fun _ => rfl) (.int .i64 v.k) (.int .i64 v.n) (.string v.t)
  exact ⟨⟨F, H, s, l, h1.other kv (fun k a b => h6.off (b ▸ a)) (fun k a => by rw [a]; exact h9), h2, h3, h4, h5, ⟨h6.var.set v, h6.off⟩, ⟨h7.var.keeps kv (fun e => h11 e.symm), h7.off⟩, hx.other kv (fun u hu => (h12 u hu).1), h8⟩, h9, h10, h11, h12⟩
theorem AQ.setc (h : AQ w wr hb vl vc vs t f n nc lv z y x u key D) (v : V) : AQ w (((wr.setCell ⟨vc, 0, none⟩ (.int .i64 v.k)).setCell ⟨vc, 1, none⟩ (.int .i64 v.n)).setCell ⟨vc, 2, none⟩ (.string v.t)) hb vl vc vs t f n nc lv z y x v key D := by
  obtain ⟨⟨F, H, s, l, h1, h2, h3, h4, h5, h6, h7, hx, h8⟩, h9, h10, h11, h12⟩ := h
  have kv := (Keeps.refl (fun k => k = vc) wr).var (r := vc) (fun _ => rfl) (.int .i64 v.k) (.int .i64 v.n) (.string v.t)
  exact ⟨⟨F, H, s, l, h1.other kv (fun k a b => h7.off (b ▸ a)) (fun k a => by rw [a]; exact h10), h2, h3, h4, h5, ⟨h6.var.keeps kv (fun e => h11 e), h6.off⟩, ⟨h7.var.set v, h7.off⟩, hx.other kv (fun u hu => (h12 u hu).2), h8⟩, h9, h10, h11, h12⟩
/-- layout.New of null. -/
theorem AQ.cls0 (h : AQ w wr hb vl vc vs t f n 0 lv z y V.null u key D) (hl : lv < 500) :
    Calls Try.prog 13 #[.pointer (some ⟨hb, 0, none⟩), V.val V.null] wr fun e w' => ∃ c : Nat, e = .returned (.tuple #[V.val ⟨4, (c : Nat), ⟨#[]⟩⟩, .int .i64 0]) ∧ AQ w w' hb vl vc vs t f n 1 (lv + 1) z y (rV (c : Nat)) u key (fun H => ∃ p tb, H[c]? = some (some (p, classCl tb [] 0 V.null))) := by
  obtain ⟨⟨F, H, s, l, h1, h2, h3, h4, h5, h6, h7, hx, h8⟩, h9, h10, h11, h12⟩ := h
  obtain rfl := List.eq_nil_of_length_eq_zero h5
  refine (lay_New_null h1.heap h1.ok (by rw [h2, h3]; omega)).mono ?_
  rintro e w' ⟨c, p, tb, F', H', s', rfl, hM⟩
  exact ⟨c, rfl, ⟨⟨F', H', s', [rV (c : Nat)], h1.made hM (fun k h => h.elim), by rw [hM.live, h2]; omega, by rw [hM.limit, h3], (h4.old hM.new).cls (.cons hM.new.at_ rfl rfl (.nil rfl)), rfl, h6.step hM.keeps hM.fr, h7.step hM.keeps hM.fr, hx.step hM.keeps hM.fr, p, tb, hM.new.at_⟩, h9, h10, h11, h12⟩⟩
/-- layout.New of one that names f. -/
theorem AQ.clsN (h : AQ w wr hb vl vc vs t f n nc lv z y x u key (fun H => Named H key f x)) (hl : lv < 500) (hn : nc < 64) :
    Calls Try.prog 13 #[.pointer (some ⟨hb, 0, none⟩), x.val] wr fun e w' => ∃ c : Nat, e = .returned (.tuple #[V.val ⟨4, (c : Nat), ⟨#[]⟩⟩, .int .i64 0]) ∧ AQ w w' hb vl vc vs t f n (nc + 1) (lv + 1) z y (rV (c : Nat)) u key (fun H => Named H key f (rV (c : Nat))) := by
  obtain ⟨⟨F, H, s, l, h1, h2, h3, h4, h5, h6, h7, hx, c0, p0, tb0, e0, sr0, b0, rfl, hc, hk, hs⟩, h9, h10, h11, h12⟩ := h
  refine (lay_New_ok h1.heap h1.ok (by rw [h2, h3]; omega) hc rfl rfl (by omega) h4.ch (by omega)).mono ?_
  rintro e w' ⟨c, p, tb, F', H', s', rfl, hM⟩
  obtain ⟨e', q1, q2, q3⟩ := clone_one e0
  have ha := hM.new.at_
  rw [q1] at ha
  exact ⟨c, rfl, ⟨⟨F', H', s', rV (c : Nat) :: l, h1.made hM (fun k h => h.elim), by rw [hM.live, h2]; omega, by rw [hM.limit, h3], (h4.old hM.new).cls (.cons hM.new.at_ rfl rfl (h4.ch.old hM.new)), by rw [List.length_cons, h5], h6.step hM.keeps hM.fr, h7.step hM.keeps hM.fr, hx.step hM.keeps hM.fr, c, p, tb, e', _, _, rfl, ha, q2.trans hk, q3⟩, h9, h10, h11, h12⟩⟩
end
end Go.Proofs.Ytfdfjogoiagnkaa
/- dreylaw16.WholeAsks: the states of its loop: Member. -/
namespace Go.Proofs.Ytfdfjogoiagnkaa
open Go.RowKit
set_option maxRecDepth 100000

theorem AskI.at_cls {H : Hp} {t f n z c p tb : Nat} {x : V} {l : List V} {key : V} {y : Nat × Cl} (h : AskI H t f n z x l key) (hc : H[c]? = some (some (p, classCl tb [] 0 V.null))) : Seg (H.set c (some y)) t z n ∧ (∃ pf, (H.set c (some y))[f]? = some (some (pf, funcCl))) ∧ ∃ p tb, (H.set c (some y))[z]? = some (some (p, tableCl tb [] 0)) := by
  obtain ⟨⟨pf, h1⟩, h2, ⟨pz, tz, h3⟩, h4⟩ := h
  exact ⟨h2.set hc (midCl_ne_kind (by simp [classCl])), ⟨pf, set_other hc h1 (by simp [classCl, funcCl])⟩, pz, tz, set_other hc h3 (by simp [classCl, tableCl])⟩
section
variable {w wr wj : World} {hb vl vc t f n nc lv z : Nat} {vs : List (Nat × V)} {y x u key : V} {D : Hp → Prop}
theorem AQ.member {c : Nat} (h : AQ w wr hb vl vc vs t f n 1 lv z y (rV (c : Nat)) u key (fun H => ∃ p tb, H[c]? = some (some (p, classCl tb [] 0 V.null)))) (h0 : key.k ≠ 0) (hkz : key.t.size ≤ 140737488351232) :
    Calls Try.prog 19 #[.pointer (some ⟨hb, 0, none⟩), V.val ⟨4, (c : Nat), ⟨#[]⟩⟩, key.val, V.val ⟨4, (f : Nat), ⟨#[]⟩⟩] wr fun e w' => e = .returned (.int .i64 0) ∧ AQ w w' hb vl vc vs t f n 1 lv z y (rV (c : Nat)) u key (fun H => Named H key f (rV (c : Nat))) := by
  obtain ⟨⟨F, H, s, l, h1, h2, h3, h4, h5, h6, h7, hx, p, tb, hc⟩, h9, h10, h11, h12⟩ := h
  refine (lay_Member h1.heap hc rfl rfl (by decide) _ key (rV (f : Nat)) h0 hkz (by simp)).mono ?_
  rintro e w' ⟨F', rfl, g1, g2, g3⟩
  obtain ⟨a1, a2, a3⟩ := h4.at_cls (y := (p, { classCl tb [] 0 V.null with tab := some (tb, (putE [] 0 key (rV (f : Nat))).1, (putE [] 0 key (rV (f : Nat))).2) })) hc
  have hn := tabH_at (p := p) (tb := tb) (q := putE [] 0 key (rV (f : Nat))) hc
  exact ⟨rfl, ⟨⟨F', _, s, [rV (c : Nat)], ⟨g1, h1.ok.turn hc _, fun k hk => (g3 k hk).elim (h1.hF k) (fun h => Nat.le_trans h1.K.size h), h1.K.trans g2 (fun k _ h => h1.hF k h)⟩, h2, h3, ⟨a2, a1, a3, .cons hn rfl rfl (.nil rfl)⟩, rfl, h6.step g2 g3, h7.step g2 g3, hx.step g2 g3, c, p, tb, ⟨key, rV (f : Nat), 1, false⟩, 1, V.null, rfl, hn, rfl, by decide⟩, h9, h10, h11, h12⟩⟩
end
end Go.Proofs.Ytfdfjogoiagnkaa
/- dreylaw16.WholeAsks: what is found by the tables. -/
namespace Go.Proofs.Ytfdfjogoiagnkaa
open Go.RowKit
set_option maxRecDepth 100000

/-- What the first table hands on to, whatever the last one has. -/
theorem Seg.ask {H : Hp} {t z n p tb : Nat} {L : List Ent} {sr : Int} (h : Seg H t z n) (hn : n ≠ 0) (hz : H[z]? = some (some (p, tableCl tb L sr))) (hs : sr < 1073740000) :
    ∃ p0 tb0 y m, H[t]? = some (some (p0, midCl tb0 y)) ∧ Dels H (rV (y : Nat)) (List.replicate m [] ++ [L]) ∧ n = m + 1 := by
  obtain ⟨p0, tb0, y, m, h1, h2, h3⟩ := h.head hn
  exact ⟨p0, tb0, y, m, h1, h2.dels (.cons hz rfl rfl hs rfl (.nil rfl)), h3⟩
theorem tabR_none (m : Nat) (key : V) : tabR (List.replicate m [] ++ [[]]) key = (V.null, 3) := by rw [tabR_pass]; rfl
theorem tabR_put (m : Nat) (key v : V) : tabR (List.replicate m [] ++ [(putE [] 0 key v).1]) key = (v, 0) := by
  rw [tabR_pass]
  have h : getR (putE [] 0 key v).1 key = (v, 0) := by simp [putE, hasL, getR]
  simp [tabR, h]
theorem Named.get {key : V} {f : Nat} {e : Ent} (hk : e.kv = (key, rV (f : Nat))) : getR [e] key = (rV (f : Nat), 0) := by
  obtain ⟨k, v, s, d⟩ := e
  simp only [Ent.kv, Prod.mk.injEq] at hk
  simp [getR, hk.1, hk.2]
theorem methB_func {H : Hp} {f pf : Nat} (h : H[f]? = some (some (pf, funcCl))) : methB H (rV (f : Nat)) = true := by
  unfold methB rV
  rw [ofR_ok h _ (kind := 5) (.inr rfl)]; rfl
end Go.Proofs.Ytfdfjogoiagnkaa
/- dreylaw16.WholeAsks: what comes behind the loop: the instance. -/
namespace Go.Proofs.Ytfdfjogoiagnkaa
open Go.RowKit
set_option maxRecDepth 100000

section
variable {w wr wj : World} {hb vl vc t f n nc lv z : Nat} {vs : List (Nat × V)} {y x u key : V} {D : Hp → Prop}
/-- Make of the class. -/
theorem AQ.make (h : AQ w wr hb vl vc vs t f n nc lv z y x u key (fun H => Named H key f x)) (hl : lv < 500) :
    Calls Try.prog 23 #[.pointer (some ⟨hb, 0, none⟩), x.val] wr fun e w' => ∃ o : Nat, e = .returned (.tuple #[V.val ⟨4, (o : Nat), ⟨#[]⟩⟩, .int .i64 0]) ∧ AQ w w' hb vl vc vs t f n nc (lv + 1) z y x u key (fun H => Named H key f x ∧ ∃ p tb L sr, H[o]? = some (some (p, instCl tb L sr x))) := by
  obtain ⟨⟨F, H, s, l, h1, h2, h3, h4, h5, h6, h7, hx, c, p, tb, e0, sr, b, rfl, hc, hk, hs⟩, h9, h10, h11, h12⟩ := h
  refine (lay_Make h1.heap h1.ok (by rw [h2, h3]; omega) hc rfl rfl (by omega)).mono ?_
  rintro e w' ⟨o, po, tx, F', H', s', rfl, hM⟩
  exact ⟨o, rfl, ⟨⟨F', H', s', l, h1.made hM (fun k h => h.elim), by rw [hM.live, h2]; omega, by rw [hM.limit, h3], h4.old hM.new, h5, h6.step hM.keeps hM.fr, h7.step hM.keeps hM.fr, hx.step hM.keeps hM.fr, ⟨c, p, tb, e0, sr, b, rfl, hM.new.old hc, hk, hs⟩, po, tx, _, _, hM.new.at_⟩, h9, h10, h11, h12⟩⟩
end
end Go.Proofs.Ytfdfjogoiagnkaa
/- dreylaw16.WholeAsks: what comes behind the loop: meta.Find. -/
namespace Go.Proofs.Ytfdfjogoiagnkaa
open Go.RowKit
set_option maxRecDepth 100000

section
variable {w wr wj : World} {hb vl vc t f n nc lv z : Nat} {vs : List (Nat × V)} {y x u key : V} {D : Hp → Prop}
/-- Nothing is found while the tables are empty. -/
theorem AQ.find0 {name : ByteArray} (h : AQ w wr hb vl vc vs t f n nc lv z y x u key D) (hn : n ≠ 0) (hl : n ≤ 1000) (hnz : name.size ≤ 140737488351232) :
    Calls Try.prog 38 #[.pointer (some ⟨hb, 0, none⟩), V.val ⟨4, (t : Nat), ⟨#[]⟩⟩, .string name] wr fun e w' => e = .returned (.tuple #[V.val V.null, .bool false]) ∧ Keeps (fun _ => False) wr w' := by
  obtain ⟨⟨F, H, s, l, h1, h2, h3, h4, h5, h6, h7, hx, h8⟩, h9, h10, h11, h12⟩ := h
  obtain ⟨pz, tz, hz⟩ := h4.end_
  obtain ⟨p0, tb0, j, m, g1, g2, g3⟩ := h4.seg.ask hn hz (by decide)
  have hj : ∃ q cd, H[j]? = some (some (q, cd)) ∧ cd.kind = 2 := by
    cases m with
    | zero => cases g2 with | cons hi hk _ _ _ _ => exact ⟨_, _, hi, hk⟩
    | succ m => cases g2 with | cons hi hk _ _ _ _ => exact ⟨_, _, hi, hk⟩
  obtain ⟨q, cd, hq, hkq⟩ := hj
  refine (meta_Find_table h1.heap g1 rfl rfl hq hkq g2 (by simp; omega) name hnz).mono ?_
  rintro e w' ⟨rfl, hK⟩
  rw [tabR_none]
  exact ⟨rfl, hK⟩
end
end Go.Proofs.Ytfdfjogoiagnkaa
/- dreylaw16.WholeAsks: what comes behind the loop: slot.New of the last table, and what is found then. -/
namespace Go.Proofs.Ytfdfjogoiagnkaa
open Go.RowKit
set_option maxRecDepth 100000

/-- What is so at the end. -/
structure AF (w wr : World) (hb : Nat) (vs : List (Nat × V)) (t f o : Nat) (key : V) : Prop where
  lie : ∃ F H s, Hd w hb F H s wr ∧ Vrs F wr vs ∧ (∃ p tb j m L, H[t]? = some (some (p, midCl tb j)) ∧ (∃ q cd, H[j]? = some (some (q, cd)) ∧ cd.kind = 2) ∧ Dels H (rV (j : Nat)) (List.replicate m [] ++ [L]) ∧ m ≤ 1000 ∧ tabR (List.replicate m [] ++ [L]) key = (rV (f : Nat), 0))
    ∧ (∃ x p tb L sr, Named H key f x ∧ H[o]? = some (some (p, instCl tb L sr x))) ∧ ∃ pf, H[f]? = some (some (pf, funcCl))
section
variable {w wr wj : World} {hb vl vc t f n nc lv z o : Nat} {vs : List (Nat × V)} {y x u key : V} {D : Hp → Prop}
theorem AF.calm (h : AF w wr hb vs t f o key) (hk : Keeps (fun _ => False) wr wj) : AF w wj hb vs t f o key := by
  obtain ⟨⟨F, H, s, h1, hx, h2⟩⟩ := h
  exact ⟨⟨F, H, s, h1.calm hk, hx.calm hk, h2⟩⟩
theorem AF.var {i : Nat} {v : V} (h : AF w wr hb vs t f o key) (hv : (i, v) ∈ vs) : IsVar wr i v := by
  obtain ⟨⟨F, H, s, h1, hx, h2⟩⟩ := h; exact (hx _ hv).var
theorem AF.newv (h : AF w wr hb vs t f o key) (v : V) : AF w (wr.alloc (.cells #[.int .i64 v.k, .int .i64 v.n, .string v.t] 26)) hb ((wr.heap.size, v) :: vs) t f o key := by
  obtain ⟨⟨F, H, s, h1, hx, h2⟩⟩ := h
  have k2 := (Keeps.refl (fun _ => False) wr).alloc (.cells #[.int .i64 v.k, .int .i64 v.n, .string v.t] 26)
  refine ⟨⟨F, H, s, h1.calm k2, fun u hu => ?_, h2⟩⟩
  rcases List.mem_cons.1 hu with rfl | hu
  · exact Vr.new v h1.heap.inw
  · exact (hx u hu).calm k2
theorem AF.newv3 (h : AF w wr hb vs t f o key) (k m : Int) (s : ByteArray) : AF w (wr.alloc (.cells #[.int .i64 k, .int .i64 m, .string s] 26)) hb ((wr.heap.size, ⟨k, m, s⟩) :: vs) t f o key := h.newv ⟨k, m, s⟩
theorem AF.K (h : AF w wr hb vs t f o key) : Keeps (fun k => w.heap.size ≤ k) w wr := by
  obtain ⟨⟨F, H, s, h1, h2⟩⟩ := h
  exact h1.K
/-- slot.New of the last table. -/
theorem AQ.give (h : AQ w wr hb vl vc vs t f n nc lv z y x u key (fun H => Named H key f x ∧ ∃ p tb L sr, H[o]? = some (some (p, instCl tb L sr x)))) (hn : n ≠ 0) (hl : n ≤ 1000) (h0 : key.k ≠ 0) (hkz : key.t.size ≤ 140737488351232) :
    Calls Try.prog 39 #[.pointer (some ⟨hb, 0, none⟩), V.val ⟨4, z, ⟨#[]⟩⟩, key.val, V.val ⟨4, (f : Nat), ⟨#[]⟩⟩] wr fun e w' => e = .returned (.int .i64 0) ∧ AF w w' hb ((vl, y) :: vs) t f o key := by
  obtain ⟨⟨F, H, s, l, h1, h2, h3, h4, h5, h6, h7, hx, ⟨c, pc, tc, e0, src, bc, rfl, hc, hk, hs⟩, po, tx, Lo, so, ho⟩, h9, h10, h11, h12⟩ := h
  obtain ⟨⟨pf, hf⟩, hg, ⟨pz, tz, hz⟩, hch⟩ := h4
  refine (slot_New h1.heap hz (.inl rfl) rfl (by decide) _ key (rV (f : Nat)) h0 hkz (by simp)).mono ?_
  rintro e w' ⟨F', rfl, g1, g2, g3⟩
  have hz' := tabH_at (p := pz) (tb := tz) (q := putE [] 0 key (rV (f : Nat))) hz
  have hg' := hg.set (y := some (pz, { tableCl tz [] 0 with tab := some (tz, (putE [] 0 key (rV (f : Nat))).1, (putE [] 0 key (rV (f : Nat))).2) })) hz (midCl_ne_null tz [] 0)
  have hz2 := hz'
  unfold tabH at hz'
  obtain ⟨p0, tb0, j, m, r1, r2, r3⟩ := hg'.ask hn hz' (by have := (putE_len [] 0 key (rV (f : Nat))).2; omega)
  refine ⟨rfl, ⟨⟨F', _, s, h1.turn hz g1 g2 g3, (fun v hv => (List.mem_cons.1 hv).elim (fun e => e ▸ h6.step g2 g3) (hx.step g2 g3 v)), ⟨p0, tb0, j, m, _, r1, ?_, r2, by omega, tabR_put m key _⟩, ⟨rV (c : Nat), po, tx, Lo, so, ⟨c, pc, tc, e0, src, bc, rfl, set_other hz hc (by simp [tableCl, classCl]), hk, hs⟩, set_other hz ho (by simp [tableCl, instCl])⟩, pf, set_other hz hf (by simp [tableCl, funcCl])⟩⟩⟩
  cases m with
  | zero => cases r2 with | cons hi hk _ _ _ _ => exact ⟨_, _, hi, hk⟩
  | succ m => cases r2 with | cons hi hk _ _ _ _ => exact ⟨_, _, hi, hk⟩
theorem AF.findT {name : ByteArray} (h : AF w wr hb vs t f o ⟨3, 0, name⟩) (hnz : name.size ≤ 140737488351232) :
    Calls Try.prog 38 #[.pointer (some ⟨hb, 0, none⟩), V.val ⟨4, (t : Nat), ⟨#[]⟩⟩, .string name] wr fun e w' => e = .returned (.tuple #[V.val ⟨4, (f : Nat), ⟨#[]⟩⟩, .bool true]) ∧ Keeps (fun _ => False) wr w' := by
  obtain ⟨⟨F, H, s, h1, hx, ⟨p0, tb0, j, m, L, g1, ⟨q, cd, hq, hkq⟩, g2, g3, g4⟩, -, pf, hf⟩⟩ := h
  refine (meta_Find_table h1.heap g1 rfl rfl hq hkq g2 (by simp; omega) name hnz).mono ?_
  rintro e w' ⟨rfl, hK⟩
  rw [g4]
  simp only [methB_func hf]
  exact ⟨rfl, hK⟩
theorem AF.findI {name : ByteArray} (h : AF w wr hb vs t f o ⟨3, 0, name⟩) (hnz : name.size ≤ 140737488351232) :
    Calls Try.prog 38 #[.pointer (some ⟨hb, 0, none⟩), V.val ⟨4, (o : Nat), ⟨#[]⟩⟩, .string name] wr fun e w' => e = .returned (.tuple #[V.val ⟨4, (f : Nat), ⟨#[]⟩⟩, .bool true]) ∧ Keeps (fun _ => False) wr w' := by
  obtain ⟨⟨F, H, s, h1, hx, -, ⟨x, po, tx, Lo, so, ⟨c, pc, tc, e0, src, bc, rfl, hc, hk, hs⟩, ho⟩, pf, hf⟩⟩ := h
  refine (meta_Find_instance h1.heap ho rfl (by rw [ofR_kind ho _ (by decide) (by simp [instCl])]; decide) rfl hc rfl rfl (by omega) name hnz).mono ?_
  rintro e w' ⟨rfl, hK⟩
  rw [Named.get hk]
  simp only [methB_func hf]
  exact ⟨rfl, hK⟩
end
end Go.Proofs.Ytfdfjogoiagnkaa
/- dreylaw16.WholeAsks: its start. -/
namespace Go.Proofs.Ytfdfjogoiagnkaa
open Go.RowKit
set_option maxRecDepth 100000

theorem given_none (w : World) (F : Nat → Prop) (kind : Int) : Given w F (fun _ => False) (fun _ => False) ⟨kind, [], none, none, [], ⟨#[]⟩⟩ none none none none :=
  ⟨fun i x h => by simp at h, fun _ => rfl, fun i x h => by simp at h, fun _ => rfl, rfl, rfl, Apart.no _, Apart.no _, Apart.no _, fun _ h => h.elim, fun _ h => h.elim, ⟨by simp, by simp, fun b' ys e => by simp at e, fun b' L s e => by simp at e⟩⟩
section
variable {w wr : World} {hb f : Nat}
theorem ask_Alloc {F : Nat → Prop} {H : Hp} {s : HSt} (kind : Int) (hk : 1 ≤ kind ∧ kind < 11) (h : Hd w hb F H s wr) (hf : s.live < s.limit) :
    Calls Try.prog 15 #[.pointer (some ⟨hb, 0, none⟩), .agg #[.int .i64 kind, .slice none 0 0, .pointer none, .pointer none, .slice none 0 0, .string ⟨#[]⟩]] wr fun e w' => ∃ f p F' H' s', e = .returned (.tuple #[.int .i64 (f : Nat), .int .i64 0]) ∧ Made wr w' F (fun _ => False) hb H s ⟨kind, [], none, none, [], ⟨#[]⟩⟩ f p F' H' s' := by
  refine (heap_Alloc_made (cv := 0) (cn := 0) h.heap h.ok (given_none wr F kind) hk hf).mono ?_
  rintro e w' ⟨i, p, F', H', s', rfl, hM⟩
  exact ⟨i, p, F', H', s', rfl, hM.heap, hM.ok, hM.new, hM.live, hM.limit, hM.freed, hM.runs, hM.lt, hM.keeps, fun k hk => (hM.fresh k hk).imp (fun h => h.imp id (fun h => h.elim id id)) id⟩
/-- The start of the loop. -/
theorem AQ.start {t vl vc : Nat} {vs : List (Nat × V)} {F : Nat → Prop} {H : Hp} {s : HSt} {key : V} (h : Hd w hb F H s wr) (hl : s.live = 2) (hm : s.limit = 500) (hf : ∃ pf, H[f]? = some (some (pf, funcCl))) (ht : ∃ p tb, H[t]? = some (some (p, tableCl tb [] 0))) (h1 : Vr F wr vl (rV (t : Nat))) (h2 : Vr F wr vc V.null) (h3 : w.heap.size ≤ vl) (h4 : w.heap.size ≤ vc) (h5 : vl ≠ vc) (h6 : Vrs F wr vs) (h7 : ∀ v ∈ vs, v.1 ≠ vl ∧ v.1 ≠ vc) :
    AQ w wr hb vl vc vs t f 0 0 2 t (rV (t : Nat)) V.null V.null key (fun _ => True) :=
  ⟨⟨F, H, s, [], h, hl, hm, ⟨hf, .nil, ht, .nil rfl⟩, rfl, h1, h2, h6, trivial⟩, h3, h4, h5, h7⟩
end
end Go.Proofs.Ytfdfjogoiagnkaa
/- dreytop.WholeAsks: its loop's state. -/
namespace Go.Proofs.Ytfdfjogoiagnkaa
open Go.RowKit
set_option maxRecDepth 100000

/-- What is so of the class at the loop's turn. -/
def AD (k : Nat) (key : V) (f : Nat) (x : V) (H : Hp) : Prop := (k = 0 ∧ x = V.null) ∨ (k ≠ 0 ∧ Named H key f x)
def AL (w wr : World) (hb vl vc : Nat) (vs : List (Nat × V)) (t f k : Nat) (key : V) (z : Nat) (x : V) : Prop :=
  AQ w wr hb vl vc vs t f k k (2 + 2 * k) z (rV (z : Nat)) x x key (AD k key f x)
section
variable {w wr wj : World} {hb vl vc t f k z : Nat} {vs : List (Nat × V)} {x key : V}
theorem AL.calm (h : AL w wr hb vl vc vs t f k key z x) (hk : Keeps (fun _ => False) wr wj) : AL w wj hb vl vc vs t f k key z x := AQ.calm h hk
theorem Named.set2 {H : Hp} {i p : Nat} {c : Cl} {y : Option (Nat × Cl)} (h : Named H key f x) (hi : H[i]? = some (some (p, c))) (hk : c.kind = 2) : Named (H.set i y) key f x := by
  obtain ⟨c', p', tb, e, sr, b, h1, h2, h3⟩ := h
  exact ⟨c', p', tb, e, sr, b, h1, set_other hi h2 (by rw [hk]; simp [classCl]), h3⟩
theorem AD.old {H H' : Hp} {i : Nat} {y : Nat × Cl} (h : AD k key f x H) (hn : NewAt H H' i y) : AD k key f x H' := h.imp id (fun h => ⟨h.1, h.2.old hn⟩)
theorem AD.set2 {H : Hp} {i p : Nat} {c : Cl} {y : Option (Nat × Cl)} (h : AD k key f x H) (hi : H[i]? = some (some (p, c))) (hk : c.kind = 2) : AD k key f x (H.set i y) := h.imp id (fun h => ⟨h.1, h.2.set2 hi hk⟩)
/-- NewTable(nil). -/
theorem AL.table (h : AL w wr hb vl vc vs t f k key z x) (hk : k ≤ 41) :
    Calls Try.prog 36 #[.pointer (some ⟨hb, 0, none⟩), .pointer none] wr fun e w' => ∃ d : Nat, e = .returned (.tuple #[V.val ⟨4, (d : Nat), ⟨#[]⟩⟩, .int .i64 0]) ∧ AQ w w' hb vl vc vs t f k k (3 + 2 * k) z (rV (z : Nat)) x x key (fun H => AD k key f x H ∧ d ≠ z ∧ ∃ p tb, H[d]? = some (some (p, tableCl tb [] 0))) := by
  refine (AQ.table h (by omega) (fun H H' i c hn hd => hd.old hn)).mono ?_
  rintro e w' ⟨d, rfl, hq⟩
  exact ⟨d, rfl, by rw [show 3 + 2 * k = 2 + 2 * k + 1 by omega]; exact hq⟩
/-- SetDelegate. -/
theorem AL.link {d : Nat} (h : AQ w wr hb vl vc vs t f k k (3 + 2 * k) z (rV (z : Nat)) x x key (fun H => AD k key f x H ∧ d ≠ z ∧ ∃ p tb, H[d]? = some (some (p, tableCl tb [] 0)))) :
    Calls Try.prog 37 #[.pointer (some ⟨hb, 0, none⟩), V.val ⟨4, z, ⟨#[]⟩⟩, V.val ⟨4, (d : Nat), ⟨#[]⟩⟩] wr fun e w' => e = .returned (.int .i64 0) ∧ AQ w w' hb vl vc vs t f (k + 1) k (3 + 2 * k) d (rV (z : Nat)) x x key (AD k key f x) :=
  AQ.link h (fun _ _ _ _ hi hk hd => hd.set2 hi hk)
/-- layout.New of the class that was. -/
theorem AL.cls {d : Nat} (h : AQ w wr hb vl vc vs t f (k + 1) k (3 + 2 * k) d (rV (d : Nat)) x x key (AD k key f x)) (hk : k ≤ 41) :
    Calls Try.prog 13 #[.pointer (some ⟨hb, 0, none⟩), x.val] wr fun e w' => ∃ c : Nat, e = .returned (.tuple #[V.val ⟨4, (c : Nat), ⟨#[]⟩⟩, .int .i64 0]) ∧ AQ w w' hb vl vc vs t f (k + 1) (k + 1) (4 + 2 * k) d (rV (d : Nat)) (rV (c : Nat)) x key (fun H => if k = 0 then ∃ p tb, H[c]? = some (some (p, classCl tb [] 0 V.null)) else Named H key f (rV (c : Nat))) := by
  by_cases h0 : k = 0
  · subst h0
    have hx : x = V.null := by
      obtain ⟨⟨F, H, s, l, h1, h2, h3, h4, h5, h6, h7, hx, h8⟩, -⟩ := h
      rcases h8 with ⟨-, e⟩ | ⟨e, -⟩
      · exact e
      · exact absurd rfl e
    subst hx
    refine (h.cls0 (by omega)).mono ?_
    rintro e w' ⟨c, rfl, hq⟩
    exact ⟨c, rfl, hq.mono (fun H hd => by rw [if_pos rfl]; exact hd)⟩
  · refine ((h.mono (E := fun H => Named H key f x) (fun H hd => hd.elim (fun e => absurd e.1 h0) (fun e => e.2))).clsN (by omega) (by omega)).mono ?_
    rintro e w' ⟨c, rfl, hq⟩
    exact ⟨c, rfl, by rw [show 4 + 2 * k = 3 + 2 * k + 1 by omega]; exact hq.mono (fun H hd => by rw [if_neg h0]; exact hd)⟩
/-- The round's end. -/
theorem AL.next {d c : Nat} (h : AQ w wr hb vl vc vs t f (k + 1) (k + 1) (4 + 2 * k) d (rV (d : Nat)) (rV (c : Nat)) (rV (c : Nat)) key (fun H => Named H key f (rV (c : Nat)))) : AL w wr hb vl vc vs t f (k + 1) key d (rV (c : Nat)) := by
  unfold AL
  rw [show 2 + 2 * (k + 1) = 4 + 2 * k by omega]
  exact h.mono (fun H hd => .inr ⟨by omega, hd⟩)
end
end Go.Proofs.Ytfdfjogoiagnkaa
