/- Layer 7: lines that are read (sink.Source), a text put together (sink.Builder); sink.Line. -/
import Derived.Test.YtcikeaabijfmpaaSink
import Derived.Test.YtcikeaabijfmpaaOpen
namespace Go.Proofs.Ytcikeaabijfmpaa
open Go.RowKit

def strCellsOf (l : List ByteArray) : List Value := l.map .string
theorem strCellsOf_length (l : List ByteArray) : (strCellsOf l).length = l.length := by simp [strCellsOf]
theorem info_string : (Try.prog.info? 9).map (fun i => (i.zero, i.size, i.bytes)) = some (some (.string ⟨#[]⟩), 1, 16) := by kernel_rfl

theorem strs_of {w : World} {A : Option Addr} {ss : List ByteArray} (h : Reads 1 RStr w A ss) : Strs w A ss := fun i s hi => by
  obtain ⟨b, o, cs, rfl, h1, h2, h3⟩ := h i s hi
  refine ⟨b, o, rfl, ?_⟩
  simp only [RStr] at h2
  subst h2
  simpa using h3 0 _ rfl
theorem Strs.nil (w : World) (A : Option Addr) : Strs w A [] := fun i s h => by simp at h
theorem add_at (g o j : Nat) : (⟨g, o, none⟩ : Addr).add j = ⟨g, o + j, none⟩ := by unfold Addr.add; split <;> simp_all
theorem Strs.src {P : Program} {w : World} {A : Option Addr} {ss : List ByteArray} {c : Nat} {tx e : TypeId} (h : Strs w A ss) (hk : P.underlying tx = some (.slice e)) : Src P 1 tx (.slice A ss.length c) ss.length (strCellsOf ss) w := by
  cases hs : ss with
  | nil =>
    cases A with
    | none => exact Src.ofNil w hk c
    | some a => exact Src.ofSlice w hk a 0 c [] rfl (by simp) (by simp)
  | cons s l =>
    obtain ⟨b, o, rfl, _⟩ := h 0 s (by simp [hs])
    rw [← hs]
    refine Src.ofSlice w hk _ _ c _ (by simp [strCellsOf]) ?_ ?_
    · intro j u hu
      simp only [strCellsOf, List.getElem?_map, Option.map_eq_some_iff] at hu
      obtain ⟨s', h1, rfl⟩ := hu
      obtain ⟨b', o', he, hc⟩ := h j s' h1
      simp at he
      obtain ⟨rfl, rfl⟩ := he
      rw [add_at]; exact hc
    · intro u hu
      simp only [strCellsOf, List.mem_map] at hu
      obtain ⟨_, _, rfl⟩ := hu
      rfl
theorem Strs.lit (w : World) (ss : List ByteArray) (t : TypeId) : Strs (w.alloc (.cells (ss.map Value.string).toArray t)) (some ⟨w.heap.size, 0, none⟩) ss := fun i s h => ⟨_, _, rfl, by
  rw [blk_cell (blk_new w _)]
  simp [h]⟩
theorem Strs.lit' (w : World) (ss : List ByteArray) (t : TypeId) {n : Nat} (hn : n = w.heap.size) : Strs (w.alloc (.cells (ss.map Value.string).toArray t)) (some ⟨n, 0, none⟩) ss := hn ▸ Strs.lit w ss t
theorem Strs.own {w : World} {base e n c : Nat} {A : Option Addr} {ss : List ByteArray} (h : w.ownsRow base e 1 (.slice A n c) n (strCellsOf ss)) : Strs w A ss := fun i s hi => by
  rcases h.2 with ⟨h1, h2⟩ | ⟨g, cap, cur, h1, _⟩
  · have := h.1
    simp [strCellsOf, h2] at this
    simp [this] at hi
  · simp at h1
    obtain ⟨rfl, rfl⟩ := h1
    refine ⟨g, 0, rfl, ?_⟩
    have := h.cells (g := g) rfl i (.string s) (by simp [strCellsOf, hi])
    rwa [add_at] at this

structure IsSource (w : World) (F : Nat → Prop) (b : Nat) (ls : List ByteArray) (n : Nat) : Prop where
  blk : ∃ A c, w.heap[b]? = some (.cells #[.slice A ls.length c, .int .i64 n] 81 (0, 0)) ∧ Row w F 9 1 (.slice A ls.length c) ls.length (strCellsOf ls)
  here : F b
  inw : In F w
theorem IsSource.keeps {w w1 : World} {F S : Nat → Prop} {b : Nat} {ls : List ByteArray} {n : Nat} (h : IsSource w F b ls n) (hk : Keeps S w w1) (hn : Apart F S) : IsSource w1 F b ls n := by
  obtain ⟨A, c, hb, hr⟩ := h.blk
  exact ⟨⟨A, c, hk.heap hb (hn _ h.here), hr.keeps hk hn⟩, h.here, h.inw.keeps hk⟩

theorem source_Read (w : World) (A : Option Addr) (c : Nat) (ss : List ByteArray) (hs : Strs w A ss) (hlen : ss.length * 16 ≤ 140737488355328) :
    Calls Try.prog 20 #[.slice A ss.length c] w fun e w' => ∃ b F, e = .returned (.pointer (some ⟨b, 0, none⟩)) ∧ IsSource w' F b ss 0 ∧ Keeps (fun _ => False) w w' ∧ Fresh (fun _ => False) F w := by
  have hs' := hidden hs
  clear hs
  refine post_gen fun R hR => ?_
  go_enter Try.func20, Try.ntmps20
  go_wp2_with (at_builtin; refine app_list rfl (fun _ => False) _ _ _ _ _ _ 1 16 rfl Try.underlying27 info_string rfl (by decide) (.slice none 0 0) _ _ rfl (Row.nil _ _ _ _) _ rfl _ _ (hs'.out.src Try.underlying27) (by omega) (by omega) ?_; intro A2 c2 w1 hR2 hK2; have HR2 := hidden hR2; have HK2 := hidden hK2; clear hR2 hK2)
  have g1 := HR2.out
  simp only [Nat.zero_add, List.nil_append] at g1
  have g2 := HK2.out.size
  refine hR.out _ _ ⟨_, fun k => w.heap.size ≤ k ∧ k < w1.heap.size + 1, rfl, ⟨⟨A2, c2, blk_new _ _, (g1.alloc _).1, fun k hk => ?_⟩, by omega, fun k hk => by simp; omega⟩, ?_, fun k hk => .inr hk.1⟩
  · have := g1.lt k hk
    have := g1.2 k hk
    simp at this
    omega
  · exact ((HK2.out.mono (fun i _ hi => by simp [Value.ownBlock] at hi)).alloc _)

theorem source_Taken (w : World) (F : Nat → Prop) (b : Nat) (ls : List ByteArray) (n : Nat) (h : IsSource w F b ls n) :
    Calls Try.prog 22 #[.pointer (some ⟨b, 0, none⟩)] w fun e w' => e = .returned (.int .i64 n) ∧ w = w' := by
  obtain ⟨A, c, hb, hr⟩ := h.blk
  have c0 : w.cell? ⟨b, 1, none⟩ = some (.int .i64 n) := blk_cell hb 1
  clear hb hr h
  go_enter Try.func22, Try.ntmps22
  go_wp2
  go_ret
  exact ⟨rfl, rfl⟩

theorem source_Next_none (w : World) (F : Nat → Prop) (b : Nat) (ls : List ByteArray) (h : IsSource w F b ls ls.length) :
    Calls Try.prog 21 #[.pointer (some ⟨b, 0, none⟩)] w fun e w' => e = .returned (.tuple #[.string ⟨#[]⟩, .bool false]) ∧ IsSource w' F b ls ls.length ∧ Keeps F w w' := by
  have H := hidden h
  obtain ⟨A, c, hb, hr⟩ := h.blk
  have c0 : w.cell? ⟨b, 0, none⟩ = some (.slice A ls.length c) := blk_cell hb 0
  have c1 : w.cell? ⟨b, 1, none⟩ = some (.int .i64 ls.length) := blk_cell hb 1
  clear hb hr h
  refine post_gen fun R hR => ?_
  go_enter Try.func21, Try.ntmps21
  go_wp2
  go_quiet (fail)
  go_wp2
  exact hR.out _ _ ⟨rfl, H.out.keeps ((Keeps.refl (fun _ => False) w).drewN _) (fun _ _ h => h), (Keeps.refl _ w).drewN _⟩

theorem source_Next_some (w : World) (F : Nat → Prop) (b : Nat) (ls : List ByteArray) (n : Nat) (hn : n < ls.length) (hmax : ls.length ≤ 4611686018427387903) (h : IsSource w F b ls n) :
    Calls Try.prog 21 #[.pointer (some ⟨b, 0, none⟩)] w fun e w' => e = .returned (.tuple #[.string ls[n], .bool true]) ∧ IsSource w' F b ls (n + 1) ∧ Keeps F w w' := by
  have H := hidden h
  obtain ⟨A, c, hb, hr⟩ := h.blk
  have HB := hidden hb
  have HR := hidden hr
  obtain ⟨rb, ro, rfl, hc⟩ := Strs.own hr.1 n _ (List.getElem?_eq_getElem hn)
  have hne := hr.ne hb (by decide) rb (by simp [Value.ownBlock])
  have c0 : w.cell? ⟨b, 0, none⟩ = some (.slice (some ⟨rb, ro, none⟩) ls.length c) := blk_cell hb 0
  have c1 : w.cell? ⟨b, 1, none⟩ = some (.int .i64 n) := blk_cell hb 1
  have f1 := blk_frozen hb 1
  clear hb hr h
  refine post_gen fun R hR => ?_
  go_enter Try.func21, Try.ntmps21
  go_wp2
  go_quiet (fail)
  have i1 : (n : Int) + 1 - 1 = n := by omega
  go_wp2
  go_quiet (fail)
  go_wp2
  refine hR.out _ _ ⟨rfl, ⟨⟨_, c, blk_set HB.out 1 _, ((HR.out.drewN _).set (p := ⟨b, 1, none⟩) (fun k hk => ?_) _).drewN _⟩, H.out.here, fun k hk => ?_⟩, (((Keeps.refl _ w).drewN _).setCell (p := ⟨b, 1, none⟩) (fun _ => H.out.here) _).drewN _⟩
  · simp [Value.ownBlock] at hk
    simp; omega
  · have := H.out.inw k hk
    simpa [World.setCell] using this

theorem lit_append {w w' : World} {S : Nat → Prop} {ss : List ByteArray} {t : TypeId} (hk : Keeps S (w.alloc (.cells (ss.map Value.string).toArray t)) w') (hn : ¬ S w.heap.size) : Strs w' (some ⟨w.heap.size, 0, none⟩) ss :=
  (Strs.lit w ss t).keeps hk (fun b o h => by simp at h; rw [← h.1]; exact hn)

theorem prt_append (lim : Nat) (ss ts : List ByteArray) : ∀ (xs : List UInt8) (full : Bool), prt lim (ss ++ ts) xs full = prt lim ts (prt lim ss xs full).1 (prt lim ss xs full).2 := by
  induction ss with
  | nil => intro xs full; simp [prt]
  | cons s ss ih =>
    intro xs full
    cases full with
    | true => simp [prt, prt_full]
    | false =>
      by_cases h : lim < xs.length + s.size
      · simp [prt, h, prt_full]
      · simp [prt, h, ih]
theorem prt_le {lim : Nat} (ss : List ByteArray) : ∀ {xs : List UInt8} {full : Bool}, xs.length ≤ lim → (prt lim ss xs full).1.length ≤ lim := by
  induction ss with
  | nil => intro xs full h; simpa [prt] using h
  | cons s ss ih =>
    intro xs full hx
    cases full with
    | true => simpa [prt] using hx
    | false =>
      by_cases h : lim < xs.length + s.size
      · simp [prt, h]; omega
      · simp only [prt, h, if_false, Bool.false_eq_true]
        refine ih ?_
        simp; have : s.data.size = s.size := rfl; omega

theorem prt_len {lim : Nat} (ss : List ByteArray) : ∀ {xs : List UInt8} {full : Bool}, (prt lim ss xs full).1.length ≤ xs.length + (cat ss).length := by
  induction ss with
  | nil => intro xs full; simp [prt]
  | cons s ss ih =>
    intro xs full
    cases full with
    | true => simp [prt]
    | false =>
      by_cases h : lim < xs.length + s.size
      · simp [prt, h, cat]; have : s.data.size = s.size := rfl; omega
      · simp only [prt, h, if_false, Bool.false_eq_true]
        have := ih (xs := xs ++ s.data.toList) (full := false)
        have e : s.data.size = s.size := rfl
        simp [cat] at this ⊢
        omega
theorem sink_Line (w : World) (F : Nat → Prop) (b : Nat) (xs : List UInt8) (lim : Nat) (full : Bool) (A : Option Addr) (c : Nat) (ss : List ByteArray) (h : IsSink w F b xs lim full) (hl : lim ≤ 9223372036854775807) (hx : xs.length ≤ lim) (hmin : min lim (xs.length + (cat ss).length + 1) ≤ 140737488355328)
    (hs : Strs w A ss) (hap : 0 < ss.length → ∀ b o, A = some ⟨b, o, none⟩ → ¬ F b) (hlen : ss.length ≤ 9223372036854775807) :
    Calls Try.prog 34 #[.pointer (some ⟨b, 0, none⟩), .slice A ss.length c] w fun e w' => ∃ F', e = .returned (.int .i64 (codeIf 40 (prt lim (ss ++ [⟨#[10]⟩]) xs full).2)) ∧ IsSink w' F' b (prt lim (ss ++ [⟨#[10]⟩]) xs full).1 lim (prt lim (ss ++ [⟨#[10]⟩]) xs full).2 ∧ Keeps F w w' ∧ Fresh F F' w := by
  have key := sink_Print w F b xs lim full A c ss h hl hx (by omega) hs hap hlen
  have HX := hidden (prt_le ss (full := full) hx)
  have HX2 := hidden (prt_len (lim := lim) ss (xs := xs) (full := full))
  rw [prt_append]
  have hinw : In F w := by obtain ⟨_, h⟩ := h; exact h.inw
  clear h hs hap hx
  generalize prt lim ss xs full = q at *
  obtain ⟨ys, f1⟩ := q
  have KEY := hidden key
  clear key
  refine post_gen fun R hR => ?_
  go_enter Try.func34, Try.ntmps34
  go_wp2_with fail
  refine KEY.out.mono ?_
  rintro e w1 ⟨F1, rfl, hS, hK, hF⟩
  have HS := hidden hS
  clear hS KEY
  cases f1 with
  | true =>
    rw [codeIf_true]
    go_wp2
    refine hR.out _ _ ⟨F1, ?_, ?_, hK, hF⟩
    · simp [prt, codeIf]
    · simpa [prt] using HS.out
  | false =>
    rw [codeIf_false]
    go_wp2_with fail
    have hin1 : In F1 w1 := by obtain ⟨_, h⟩ := HS.out; exact h.inw
    have hno : ¬ F1 w1.heap.size := fun h => Nat.lt_irrefl _ (hin1 _ h)
    refine (sink_Print _ F1 b ys lim false (some ⟨w1.heap.size, 0, none⟩) 1 [⟨#[10]⟩] (HS.out.keeps ((Keeps.refl (fun _ => False) w1).alloc _) (fun _ _ h => h)) hl HX.out (by have := HX2.out; simp [cat]; omega) (Strs.lit w1 [⟨#[10]⟩] _) (by rintro _ _ _ h; simp at h; rw [← h.1]; exact hno) (by simp)).mono ?_
    rintro e w2 ⟨F2, rfl, hS2, hK2, hF2⟩
    have hk : Keeps F w w2 := by
      refine (hK.fresh hF ((Keeps.refl F1 w1).alloc _)).fresh (hF.trans (fun k h => .inl h) hK) hK2
    have hf : Fresh F F2 w := fun k hk => by
      rcases hF2 k hk with x | x
      · exact hF k x
      · have := hK.size; simp at x; exact .inr (by omega)
    have HS2 := hidden hS2
    clear hS2 hK2 hF2
    go_wp2
    exact hR.out _ _ ⟨F2, rfl, HS2.out, hk, hf⟩
end Go.Proofs.Ytcikeaabijfmpaa
